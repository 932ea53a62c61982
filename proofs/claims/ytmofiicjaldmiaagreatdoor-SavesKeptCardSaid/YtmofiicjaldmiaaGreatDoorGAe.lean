import Derived.Test.YtmofiicjaldmiaaGreatDoorGAd
section
namespace Go.Proofs.YtmofiicjaldmiaaGreatDoor.SwC
open Go.RowKit Go.Shelf YtmofiicjaldmiaaGreatDoorW.PrintWords YtmofiicjaldmiaaGreatDoorW.PrintLast SvA SvB SvC SvD SvE SvF SvG SvH SvI SvJ SvK SvL SvM SvN SvO SvP SvQ SvR SvS SvT SvU SvV SvW SvX SvY SvZ SwA
set_option linter.unusedVariables false
set_option linter.unusedSimpArgs false
set_option maxRecDepth 100000 in
set_option maxHeartbeats 4000000 in
theorem put_neg_0 (w : World) (own : Nat → Nat) (t g gs : Nat) (ga : Nat → Nat) (S : SV) (H : SvMem w own t g gs ga S) (ht : t ≠ 0) (i : Nat) (hi : i < 8) (hS : BOk S.b) (hA : AOk S i) (name : ByteArray) (hs : name.size < 2 ^ 62) (hn16 : name.size ≤ 16) (hd : S.dead = false) (hok : nameOk name = true) (A : Option Addr) (c td : Nat) (data : List Int) (hda : Rd u8K w own td ⟨A, 0, c⟩ data) (htd : ¬ k3 t td) (hu : u8s data) (hn : 0 ≤ 131072) (hf : findI (fun e => e.hd.name == name) (S.ar i).ents < 0) (hroom : freeH (S.ar i) ≠ [] ∧ (freeD (S.ar i) (many 0)).length = many 0) (hlim : S.b.lim = false) (hpe : S.b.pend = []) :
  Calls Tryz.prog 23 #[pt g, .int .i64 ((i : Int) + 1), .string name, .slice A 0 c] w (ActP w own t g gs ga S.b.n (putS S i none name data)) := by
 have hcn := named_yes w own t g gs ga S H i hi name hs hd hok (by have := hA.el; omega)
 have HH := Lib.hid H
 generalize hr : findI (fun e : EN => e.hd.name == name) (S.ar i).ents = r at *
 have hrk : decide (r ≥ 0) = false := by simp; omega
 clear hr
 have HC := Lib.hid hcn
 have HFH := Lib.hid (fun (W : World) (h : Below w.heap.size w W) => heads_ok W _ _ _ _ _ ((HH.out.below h).ar i hi) (by have := hA.el; omega) (by have := hA.s16; have := hA.hs; omega))
 have HFD := Lib.hid (fun (W : World) (h : Below w.heap.size w W) => data_ok W _ _ _ _ _ ((HH.out.below h).ar i hi) (by have := hA.el; omega) (by have := hA.s16; have := hA.hs; omega) (by have := hA.s16; omega) (fun e he => by have := (hA.eo e he).2.2.2; omega) (many 0) (by unfold many; omega))
 have HAR := Lib.hid (fun (W : World) (h : Below w.heap.size w W) => ar_c1 ((HH.out.below h).ar i hi))
 have HDA := Lib.hid hda
 have HDL0 := Lib.hid (show data.length = 0 from hda.1.1)
 have hnc : 0 ≤ c := hda.2.1
 have HHA := Lib.hid hA
 clear hcn H hok hda hA
 go_enter Tryz.func23, Tryz.ntmps23
 go_upto_region 7 with (first | (go_at_call 50; refine HC.out.mono ?_; rintro e w1 ⟨rfl, hb1⟩; have q3 := (HAR.out w1 hb1).2.2.2) | (go_at_call 51; refine Calls.mono (HFH.out w1 hb1) ?_; rintro e w2 ⟨⟨A1, n1, c1⟩, rfl, hN1⟩; unfold Sl.enc; dsimp only))
 have hb2 : Below w.heap.size w w2 := hb1.trans (hN1.below.mono hb1.size)
 have HN1 := Lib.hid hN1
 clear hN1 q3
 have hS0 : w2.cell? ⟨ga i, 2, none⟩ = some (.int .i64 ((S.ar i).sec : Int)) ∧ w2.cell? ⟨ga i, 3, none⟩ = some (.int .i64 ((S.ar i).heads : Int)) := ⟨(HAR.out w2 hb2).2.2.1, (HAR.out w2 hb2).2.2.2⟩
 refine start_ (n := 14) (S := fun w' => w'.cell? ⟨ga i, 2, none⟩ = some (.int .i64 ((S.ar i).sec : Int)) ∧ w'.cell? ⟨ga i, 3, none⟩ = some (.int .i64 ((S.ar i).heads : Int))) (ds := []) #[false, false, false, false, false, false, false, false, false, false, false, false, false, false] (by kernel_rfl) rfl rfl hS0 (fun hHeld => ?_)
 refine pu_ (i := 0) (N := some 38) (v := ?_) (a' := ?_) rfl rfl (by kernel_rfl) (fun _ _ _ h => h) (by rfl) ?_ ?_ ?_
 rotate_left
 · (intro w'; go_simp; with_reducible rfl)
 rotate_left
 · (simp only [put_s, List.set, i64_w, i32_w]; rfl)
 refine pu_ (i := 1) (N := some 39) (v := ?_) (a' := ?_) rfl rfl (by kernel_rfl) (fun _ _ _ h => h) (by rfl) ?_ ?_ ?_
 rotate_left
 · (intro w'; go_simp; with_reducible rfl)
 rotate_left
 · (simp only [put_s, List.set, i64_w, i32_w]; rfl)
 refine pu_ (i := 2) (N := some 40) (v := ?_) (a' := ?_) rfl rfl (by kernel_rfl) (fun _ _ _ h => h) (by rfl) ?_ ?_ ?_
 rotate_left
 · (intro w'; go_simp; with_reducible rfl)
 rotate_left
 · (simp only [put_s, List.set, i64_w, i32_w]; rfl)
 refine pu_ (i := 3) (N := some 41) (v := ?_) (a' := ?_) rfl rfl (by kernel_rfl) (fun _ _ _ h => h) (by rfl) ?_ ?_ ?_
 rotate_left
 · (intro w'; go_simp; with_reducible rfl)
 rotate_left
 · (simp only [put_s, List.set, i64_w, i32_w]; rfl)
 refine tk_ (i := 4) (N := some 42) (v := ?_) (a' := ?_) rfl rfl (by kernel_rfl) (fun _ _ _ h => h) (by rfl) ?_ hHeld ?_ ?_
 rotate_left
 ·
  intro w' s0
  obtain ⟨q1, q2⟩ := s0
  go_simp
  with_reducible rfl
 rotate_left
 · (simp only [put_s, List.set, i64_w, i32_w]; rfl)
 refine pu_ (i := 5) (N := some 43) (v := ?_) (a' := ?_) rfl rfl (by kernel_rfl) (fun _ _ _ h => h) (by rfl) ?_ ?_ ?_
 rotate_left
 · (intro w'; go_simp; with_reducible rfl)
 rotate_left
 · (simp only [put_s, List.set, i64_w, i32_w]; rfl)
 refine pu_ (i := 6) (N := some 44) (v := ?_) (a' := ?_) rfl rfl (by kernel_rfl) (fun _ _ _ h => h) (by rfl) ?_ ?_ ?_
 rotate_left
 · (intro w'; go_simp; with_reducible rfl)
 rotate_left
 · (simp only [put_s, List.set, i64_w, i32_w]; rfl)
 refine pu_ (i := 7) (N := some 45) (v := ?_) (a' := ?_) rfl rfl (by kernel_rfl) (fun _ _ _ h => h) (by rfl) ?_ ?_ ?_
 rotate_left
 · (intro w'; go_simp; with_reducible rfl)
 rotate_left
 · (simp only [put_s, List.set, i64_w, i32_w]; rfl)
 refine tk_ (i := 8) (N := some 46) (v := ?_) (a' := ?_) rfl rfl (by kernel_rfl) (fun _ _ _ h => h) (by rfl) ?_ hHeld ?_ ?_
 rotate_left
 ·
  intro w' s0
  obtain ⟨q1, q2⟩ := s0
  go_simp
  with_reducible rfl
 rotate_left
 · (simp only [put_s, List.set, i64_w, i32_w]; rfl)
 refine pu_ (i := 9) (N := some 47) (v := ?_) (a' := ?_) rfl rfl (by kernel_rfl) (fun _ _ _ h => h) (by rfl) ?_ ?_ ?_
 rotate_left
 · (intro w'; go_simp; with_reducible rfl)
 rotate_left
 · (simp only [put_s, List.set, i64_w, i32_w]; rfl)
 refine pu_ (i := 10) (N := some 48) (v := ?_) (a' := ?_) rfl rfl (by kernel_rfl) (fun _ _ _ h => h) (by rfl) ?_ ?_ ?_
 rotate_left
 · (intro w'; go_simp; with_reducible rfl)
 rotate_left
 · (simp only [put_s, List.set, i64_w, i32_w]; rfl)
 refine on_ (i := 11) (N := some 49) rfl rfl (by kernel_rfl) (by decide) (fun K hK => ?_)
 refine goes_ Tryz.func53 (by kernel_rfl) rfl #[.int .i64 (0 : Int)] (by first | rfl | (simp [Act.eval]; done)) rfl rfl (by first | rfl | (simp [Act.eval]; done)) ?_
 refine Calls.mono (many_ok _ 0 (by omega)) ?_
 rintro e w' ⟨rfl, rfl⟩
 refine ⟨_, rfl, ?_⟩
 refine hK.out _ _ hHeld (fun hHeld => ?_)
 clear hK K
 refine norm_ (a' := ?_) ?_ ?_
 rotate_left
 ·
  show Act.put _ (some 49) _ = _
  simp only [put_s, List.set, i64_w, i32_w]
  rfl
 refine on_ (i := 12) (N := some 50) rfl rfl (by kernel_rfl) (by decide) (fun K hK => ?_)
 refine goes_ Tryz.func51 (by kernel_rfl) rfl #[pt (ga i), .int .i64 ((S.ar i).heads : Int), .int .i64 ((S.ar i).sec : Int), .int .i64 (many 0 : Int), .func (.func 54) #[] #[]] (by first | rfl | (simp [Act.eval]; done)) rfl rfl (by first | rfl | (simp [Act.eval]; done)) ?_
 refine Calls.mono (HFD.out w2.drew hb2.drew) ?_
 rintro e w3 ⟨⟨A2, n2, c2⟩, rfl, hN2⟩
 unfold Sl.enc; dsimp only
 refine ⟨_, rfl, ?_⟩
 refine hK.out _ _ ⟨cellOf hN2.below hHeld.1, cellOf hN2.below hHeld.2⟩ (fun hHeld => ?_)
 clear hK K
 refine norm_ (a' := ?_) ?_ ?_
 rotate_left
 ·
  show Act.put _ (some 50) _ = _
  simp only [put_s, List.set, i64_w, i32_w]
  rfl
 refine pu_ (i := 13) (N := some 13) (v := ?_) (a' := ?_) rfl rfl (by kernel_rfl) (fun _ _ _ h => h) (by rfl) ?_ ?_ ?_
 rotate_left
 · (intro w'; go_simp; with_reducible rfl)
 rotate_left
 · (simp only [put_s, List.set, i64_w, i32_w]; rfl)
 refine done_ (by kernel_rfl) ?_
 have hb3 : Below w.heap.size w w3 := hb2.drew.trans (hN2.below.mono hb2.size)
 have HN2 := Lib.hid hN2
 clear hHeld hN2 hS0
 go_upto_region 9 with (fail)
 obtain ⟨hh, hfh⟩ : ∃ hh, freeH (S.ar i) = [hh] := by
  have := freeH_len (S.ar i)
  rcases hfl : freeH (S.ar i) with _ | ⟨x, _ | ⟨y, l⟩⟩
  · exact absurd hfl hroom.1
  · exact ⟨x, rfl⟩
  · rw [hfl] at this; simp at this
 rw [hfh] at HN1
 obtain rfl : n1 = 1 := HN1.out.len
 obtain ⟨b1, hA1, hb1l⟩ := HN1.out.hd Nat.one_pos
 dsimp only at hA1
 subst hA1
 have hhm : 0 ≤ hh ∧ hh < ((S.ar i).heads : Int) := by have := freeH_mem (show hh ∈ freeH (S.ar i) by rw [hfh]; exact List.mem_singleton.2 rfl); exact ⟨this.1, this.2.1⟩
 generalize hds : freeD (S.ar i) (many 0) = ds at *
 have hdm : ∀ x ∈ ds, ((S.ar i).heads : Int) ≤ x ∧ x < ((S.ar i).sec : Int) := fun x hx => by rw [← hds] at hx; have := freeD_mem hx; exact ⟨this.1, this.2.1⟩
 have hdsl : ds.length = many 0 := hroom.2
 have hn2 : n2 = many 0 := HN2.out.len.trans hdsl
 have hm0 : many 0 = 0 := rfl
 rw [hm0] at hn2
 subst hn2
 have HDS0 := Lib.hid (show ds = [] from List.length_eq_zero_iff.1 (hdsl.trans hm0))
 have ed : decide ((0 : Int) < ((many 0 : Nat) : Int)) = false := by rw [hm0]; decide
 have HDM := Lib.hid hdm
 have HHM := Lib.hid hhm
 have HDS := Lib.hid hds
 have HFH' := Lib.hid hfh
 have HDSL := Lib.hid hdsl
 have HRM := Lib.hid hroom
 have HDL := HDL0
 clear hdm hhm hds hfh hdsl hroom
 have HSUM := Lib.hid (sum_ok w3 A 0 c data (BytesAt.below (B := 0) (A := A) (n := 0) HDA.out.1 hb3) hu (by omega) hnc)
 go_upto_region 12 with (first | (go_at_call 53; refine (many_ok _ 0 (by omega)).mono ?_; rintro e w' ⟨rfl, rfl⟩) | (go_at_call 55; refine HSUM.out.mono ?_; rintro e w' ⟨rfl, rfl⟩))
 have HB0 := Lib.hid (hb3.alloc hb3.size (Obj.cells #[.int .i64 ((i : Int) + 1), .string name, .int .u32 1, .int .i64 (0 : Int), .int .u32 (sumS data), .int .i64 0] 105))
 have hB4 : Blk (w3.alloc (Obj.cells #[.int .i64 ((i : Int) + 1), .string name, .int .u32 1, .int .i64 (0 : Int), .int .u32 (sumS data), .int .i64 0] 105)) w3.heap.size #[.int .i64 ((i : Int) + 1), .string name, .int .u32 1, .int .i64 (0 : Int), .int .u32 (sumS data), .int .i64 0] 105 := blkNew rfl
 have hbA := ba (w := w3) (Obj.cells #[.int .i64 ((i : Int) + 1), .string name, .int .u32 1, .int .i64 (0 : Int), .int .u32 (sumS data), .int .i64 0] 105)
 have hz4 : (w3.alloc (Obj.cells #[.int .i64 ((i : Int) + 1), .string name, .int .u32 1, .int .i64 (0 : Int), .int .u32 (sumS data), .int .i64 0] 105)).heap.size = w3.heap.size + 1 := by simp
 generalize w3.alloc (Obj.cells #[.int .i64 ((i : Int) + 1), .string name, .int .u32 1, .int .i64 (0 : Int), .int .u32 (sumS data), .int .i64 0] 105) = W4 at *
 have hpw : w.heap.size ≤ w3.heap.size := hb3.size
 have hB5 := hB4
 have hb5 := hbA
 have hz5 := hz4
 clear hB4 hbA hz4
 go_upto_region 16 with (fail)
 have hB6 := hB5
 have hb6 := hb5
 have hz6 := hz5
 clear hB5 hb5 hz5
 have ch : W4.cell? ⟨b1, 0, none⟩ = some (.int .i64 hh) := cellOf hb6 (cellOf HN2.out.below (HN1.out.cell 0 hh rfl))
 try simp at hB6
 have hS1 : W4.cell? ⟨w3.heap.size, 0, none⟩ = some (.int .i64 ((i : Int) + 1)) ∧ W4.cell? ⟨w3.heap.size, 1, none⟩ = some (.string name) ∧ W4.cell? ⟨w3.heap.size, 2, none⟩ = some (.int .u32 1) ∧ W4.cell? ⟨w3.heap.size, 3, none⟩ = some (.int .i64 (0 : Int)) ∧ W4.cell? ⟨w3.heap.size, 4, none⟩ = some (.int .u32 (sumS data)) ∧ W4.cell? ⟨w3.heap.size, 5, none⟩ = some (.int .i64 0) ∧ W4.cell? ⟨b1, 0, none⟩ = some (.int .i64 hh) :=
  ⟨Blk.cell (i := 0) hB6 rfl, Blk.cell (i := 1) hB6 rfl, Blk.cell (i := 2) hB6 rfl, Blk.cell (i := 3) hB6 rfl, Blk.cell (i := 4) hB6 rfl, Blk.cell (i := 5) hB6 rfl, ch⟩
 clear ch
 refine start_ (n := 8) (S := fun w' => w'.cell? ⟨w3.heap.size, 0, none⟩ = some (.int .i64 ((i : Int) + 1)) ∧ w'.cell? ⟨w3.heap.size, 1, none⟩ = some (.string name) ∧ w'.cell? ⟨w3.heap.size, 2, none⟩ = some (.int .u32 1) ∧ w'.cell? ⟨w3.heap.size, 3, none⟩ = some (.int .i64 (0 : Int)) ∧ w'.cell? ⟨w3.heap.size, 4, none⟩ = some (.int .u32 (sumS data)) ∧ w'.cell? ⟨w3.heap.size, 5, none⟩ = some (.int .i64 0) ∧ w'.cell? ⟨b1, 0, none⟩ = some (.int .i64 hh)) (ds := []) #[false, false, false, false, false, false, false, false] (by kernel_rfl) rfl rfl hS1 (fun hHeld => ?_)
 refine tk_ (i := 0) (N := some 106) (v := ?_) (a' := ?_) rfl rfl (by kernel_rfl) (fun _ _ _ h => h) (by rfl) ?_ hHeld ?_ ?_
 rotate_left
 ·
  intro w' s0
  obtain ⟨q1, q2, q3, q4, q5, q6, q7⟩ := s0
  go_simp
  with_reducible rfl
 rotate_left
 · (simp only [put_s, List.set, i64_w, i32_w]; rfl)
 refine pu_ (i := 1) (N := some 107) (v := ?_) (a' := ?_) rfl rfl (by kernel_rfl) (fun _ _ _ h => h) (by rfl) ?_ ?_ ?_
 rotate_left
 · (intro w'; go_simp; with_reducible rfl)
 rotate_left
 · (simp only [put_s, List.set, i64_w, i32_w]; rfl)
 refine pu_ (i := 2) (N := some 108) (v := ?_) (a' := ?_) rfl rfl (by kernel_rfl) (fun _ _ _ h => h) (by rfl) ?_ ?_ ?_
 rotate_left
 · (intro w'; go_simp; with_reducible rfl)
 rotate_left
 · (simp only [put_s, List.set, i64_w, i32_w]; rfl)
 refine tk_ (i := 3) (N := some 109) (v := ?_) (a' := ?_) rfl rfl (by kernel_rfl) (fun _ _ _ h => h) (by rfl) ?_ hHeld ?_ ?_
 rotate_left
 ·
  intro w' s0
  obtain ⟨q1, q2, q3, q4, q5, q6, q7⟩ := s0
  go_simp
  with_reducible rfl
 rotate_left
 · (simp only [put_s, List.set, i64_w, i32_w]; rfl)
 refine pu_ (i := 4) (N := some 110) (v := ?_) (a' := ?_) rfl rfl (by kernel_rfl) (fun _ _ _ h => h) (by rfl) ?_ ?_ ?_
 rotate_left
 · (intro w'; go_simp; with_reducible rfl)
 rotate_left
 · (simp only [put_s, List.set, i64_w, i32_w]; rfl)
 refine pu_ (i := 5) (N := some 111) (v := ?_) (a' := ?_) rfl rfl (by kernel_rfl) (fun _ _ _ h => h) (by rfl) ?_ ?_ ?_
 rotate_left
 · (intro w'; go_simp; with_reducible rfl)
 rotate_left
 · (simp only [put_s, List.set, i64_w, i32_w]; rfl)
 refine on_ (i := 6) (N := some 16) rfl rfl (by kernel_rfl) (by decide) (fun K hK => ?_)
 refine value_ (v := pt W4.drew.heap.size) (w1 := W4.drew.alloc (.cells #[.int .i64 0, .string ⟨#[]⟩, .int .u32 0, .int .i64 0, .int .u32 0, .int .i64 0, .int .i64 0, .slice none 0 0] 107)) (by rfl) rfl (by go_simp) ?_
 refine hK.out _ _ ⟨cellOf (ba _) hHeld.1, cellOf (ba _) hHeld.2.1, cellOf (ba _) hHeld.2.2.1, cellOf (ba _) hHeld.2.2.2.1, cellOf (ba _) hHeld.2.2.2.2.1, cellOf (ba _) hHeld.2.2.2.2.2.1, cellOf (ba _) hHeld.2.2.2.2.2.2⟩ (fun hHeld => ?_)
 clear hK K
 refine norm_ (a' := ?_) ?_ ?_
 rotate_left
 ·
  show Act.put _ (some 16) _ = _
  simp only [put_s, List.set, i64_w, i32_w]
  rfl
 refine on_ (i := 7) (N := none) rfl rfl (by kernel_rfl) (by decide) (fun K hK => ?_)
 refine skip_ (w1 := W4.drew.alloc (.cells #[.int .i64 ((i : Int) + 1), .string name, .int .u32 1, .int .i64 (0 : Int), .int .u32 (sumS data), .int .i64 0, .int .i64 hh, .slice A2 0 c2] 107)) (by rfl) rfl (by go_simp) ?_
 refine hK.out _ _ ⟨cellOf (ba (w := W4.drew) _) hS1.1, cellOf (ba (w := W4.drew) _) hS1.2.1, cellOf (ba (w := W4.drew) _) hS1.2.2.1, cellOf (ba (w := W4.drew) _) hS1.2.2.2.1, cellOf (ba (w := W4.drew) _) hS1.2.2.2.2.1, cellOf (ba (w := W4.drew) _) hS1.2.2.2.2.2.1, cellOf (ba (w := W4.drew) _) hS1.2.2.2.2.2.2⟩ (fun hHeld => ?_)
 clear hK K
 refine done_ (by kernel_rfl) ?_
 have hb37 : Below w3.heap.size w3 (W4.drew.alloc (.cells #[.int .i64 ((i : Int) + 1), .string name, .int .u32 1, .int .i64 (0 : Int), .int .u32 (sumS data), .int .i64 0, .int .i64 hh, .slice A2 0 c2] 107)) := hb6.drew.alloc (by rw [World.size_drew]; omega) _
 have hK37 := (Kp.below (ts := fun _ => False) (own := own) hb3 0).trans (Kp.below (ts := fun _ => False) (own := tagged w own 0) hb37 0)
 have hB7 : Blk (W4.drew.alloc (.cells #[.int .i64 ((i : Int) + 1), .string name, .int .u32 1, .int .i64 (0 : Int), .int .u32 (sumS data), .int .i64 0, .int .i64 hh, .slice A2 0 c2] 107)) W4.drew.heap.size #[.int .i64 ((i : Int) + 1), .string name, .int .u32 1, .int .i64 (0 : Int), .int .u32 (sumS data), .int .i64 0, .int .i64 hh, .slice A2 0 c2] 107 := blkNew rfl
 have hR7 := (HN2.out.rd own (w0 := w) hb2.size).keep i64K_K (by decide) (Kp.below (ts := fun _ => False) (own := tagged w own 0) hb37 0) (fun q => q)
 have hO7 : tagged w3 (tagged w own 0) 0 W4.drew.heap.size = 0 := tagged_new (by rw [World.size_drew]; omega)
 have hD7 := HDA.out.keep u8K_K (by decide) hK37 (fun q => q)
 have hM7 := HH.out.keep hK37 (fun q => q) (fun _ _ _ q => q)
 clear hb37 hHeld hS1 hB6
 generalize (W4.drew.alloc (.cells #[.int .i64 ((i : Int) + 1), .string name, .int .u32 1, .int .i64 (0 : Int), .int .u32 (sumS data), .int .i64 0, .int .i64 hh, .slice A2 0 c2] 107)) = W7 at *
 generalize tagged w3 (tagged w own 0) 0 = o7 at *
 generalize W4.drew.heap.size = q7 at *
 have HNE : newE (S.ar i) ((i : Int) + 1) name 1 data = ⟨⟨(i : Int) + 1, name, 1, (0 : Int), sumS data, 0⟩, hh, ds⟩ := by
  unfold newE
  rw [HDL.out, HFH'.out, HDS.out]
  rw [HDS0.out]
  rfl
 have hs16 := HHA.out.s16
 have hhs := HHA.out.hs
 have hXok : HD.ok ⟨(i : Int) + 1, name, 1, (0 : Int), sumS data, 0⟩ := ⟨⟨by show (0 : Int) ≤ (i : Int) + 1; omega, by show (i : Int) + 1 < 256; omega⟩, hn16, ⟨by show (0 : Int) ≤ 1; omega, by show 1 < (4294967296 : Int); omega⟩, ⟨by show (0 : Int) ≤ (0 : Int); omega, by show (0 : Int) < 4294967296; omega⟩, xor_u32_bd _ _, ⟨by show (0 : Int) ≤ 0; omega, by show 0 < (65536 : Int); omega⟩⟩
 have hL := lay_ok W7 o7 t g gs ga S hM7 ht i hi hS HHA.out.fs hs16 (EP.mk ⟨⟨(i : Int) + 1, name, 1, (0 : Int), sumS data, 0⟩, hh, ds⟩ ⟨A2, 0, c2⟩) hR7 hXok (fun y hy => ⟨by have := (HDM.out y hy).1; omega, (HDM.out y hy).2⟩) ⟨HHM.out.1, by have := HHM.out.2; show hh < ((S.ar i).sec : Int); omega⟩ A 0 c td data hD7 htd hu (by omega) HDSL.out (by have := HDSL.out; rw [hpe]; show 0 + ds.length + 2 < _; rw [HDS0.out]; decide)
 rw [layS_lim _ _ _ _ hlim] at hL
 have hblim := layB_lim (S.ar i) ⟨⟨(i : Int) + 1, name, 1, (0 : Int), sumS data, 0⟩, hh, ds⟩ data S.b hlim
 have hbp := layB_pend (S.ar i) ⟨⟨(i : Int) + 1, name, 1, (0 : Int), sumS data, 0⟩, hh, ds⟩ data S.b
 have HPS : putS S i none name data = SV.setE (SV.setB S (layB (S.ar i) ⟨⟨(i : Int) + 1, name, 1, (0 : Int), sumS data, 0⟩, hh, ds⟩ data S.b)) i (((SV.setB S (layB (S.ar i) ⟨⟨(i : Int) + 1, name, 1, (0 : Int), sumS data, 0⟩, hh, ds⟩ data S.b)).ar i).ents ++ [⟨⟨(i : Int) + 1, name, 1, (0 : Int), sumS data, 0⟩, hh, ds⟩]) := by
  unfold putS
  simp only
  rw [HNE]
 have HX := Lib.hid HPS
 have hDe : ((SV.setB S (layB (S.ar i) ⟨⟨(i : Int) + 1, name, 1, (0 : Int), sumS data, 0⟩, hh, ds⟩ data S.b)).ar i).ents.length ≤ (S.ar i).ents.length := Nat.le_refl _
 have hdd : (SV.setB S (layB (S.ar i) ⟨⟨(i : Int) + 1, name, 1, (0 : Int), sumS data, 0⟩, hh, ds⟩ data S.b)).dead = false := hd
 have hDar : ((SV.setB S (layB (S.ar i) ⟨⟨(i : Int) + 1, name, 1, (0 : Int), sumS data, 0⟩, hh, ds⟩ data S.b)).ar i).ten = (S.ar i).ten := rfl
 clear HPS
 generalize hLB : (layB (S.ar i) ⟨⟨(i : Int) + 1, name, 1, (0 : Int), sumS data, 0⟩, hh, ds⟩ data S.b) = lb at *
 clear hLB HNE hDar hpe hlim hblim hbp
 have HL := Lib.hid hL
 have HOK := Lib.hid hXok
 clear hL hXok
 have e0 := Blk.cell (i := 0) hB7 rfl
 have e1 := Blk.cell (i := 1) hB7 rfl
 have e2 := Blk.cell (i := 2) hB7 rfl
 have e3 := Blk.cell (i := 3) hB7 rfl
 have e4 := Blk.cell (i := 4) hB7 rfl
 have e5 := Blk.cell (i := 5) hB7 rfl
 have e6 := Blk.cell (i := 6) hB7 rfl
 have e7 := Blk.cell (i := 7) hB7 rfl
 go_upto_region 21 with (go_at_call 56; refine Calls.mono HL.out ?_; rintro e w8 ⟨rfl, l1, l2, o8, l3, l4⟩; simp only [if_true])
 have HMC := Lib.hid l3
 have hkc : Kp (k20 t) W7 o7 w8 o8 := l4.mono (fun q h => ⟨by rcases h with h | h | h <;> omega, by rcases h with h | h | h <;> omega⟩)
 have hokb : BOk (SV.setB S lb).b := l1
 have hnb : (SV.setB S lb).b.n = S.b.n := l2
 clear l1 l2 l3 l4
 obtain ⟨⟨zA2, zn2, zc2⟩, ps2, hg2, hb2x, hz2, hes2⟩ := HMC.out.ar i hi
 have hpn : ps2.length < 2 ^ 30 := by
  have h1 : ps2.length = ((SV.setB S lb).ar i).ents.length := by rw [← hes2.1, List.length_map]
  have := HHA.out.el
  omega
 have hq8 := (hB7.keep hkc (by rw [hO7]; intro h; have := h.1; omega)).1
 have hr8 := hR7.keep i64K_K (by decide) hkc (by intro h; have := h.1; omega)
 have hS2 : w8.cell? ⟨ga i, 4, none⟩ = some (.slice zA2 zn2 zc2) ∧ w8.cell? ⟨q7, 0, none⟩ = some (.int .i64 ((i : Int) + 1)) ∧ w8.cell? ⟨q7, 1, none⟩ = some (.string name) ∧ w8.cell? ⟨q7, 2, none⟩ = some (.int .u32 1) ∧ w8.cell? ⟨q7, 3, none⟩ = some (.int .i64 (0 : Int)) ∧ w8.cell? ⟨q7, 4, none⟩ = some (.int .u32 (sumS data)) ∧ w8.cell? ⟨q7, 5, none⟩ = some (.int .i64 0) ∧ w8.cell? ⟨q7, 6, none⟩ = some (.int .i64 hh) ∧ w8.cell? ⟨q7, 7, none⟩ = some (.slice A2 0 c2) :=
  ⟨Blk.cell (i := 4) hb2x rfl, Blk.cell (i := 0) hq8 rfl, Blk.cell (i := 1) hq8 rfl, Blk.cell (i := 2) hq8 rfl, Blk.cell (i := 3) hq8 rfl, Blk.cell (i := 4) hq8 rfl, Blk.cell (i := 5) hq8 rfl, Blk.cell (i := 6) hq8 rfl, Blk.cell (i := 7) hq8 rfl⟩
 have HZ2 := Lib.hid hz2
 have HES := Lib.hid hes2
 have HB2 := Lib.hid hb2x
 have HG2 := Lib.hid hg2
 have HR8 := Lib.hid hr8
 have HKC := Lib.hid hkc
 have HK37 := Lib.hid hK37
 clear e0 e1 e2 e3 e4 e5 e6 e7
 clear hz2 hes2 hb2x hg2 hr8 hkc hq8 hR7 hD7 hM7 hB7 hK37
 refine start_ (n := 11) (S := fun w' => w'.cell? ⟨ga i, 4, none⟩ = some (.slice zA2 zn2 zc2) ∧ w'.cell? ⟨q7, 0, none⟩ = some (.int .i64 ((i : Int) + 1)) ∧ w'.cell? ⟨q7, 1, none⟩ = some (.string name) ∧ w'.cell? ⟨q7, 2, none⟩ = some (.int .u32 1) ∧ w'.cell? ⟨q7, 3, none⟩ = some (.int .i64 (0 : Int)) ∧ w'.cell? ⟨q7, 4, none⟩ = some (.int .u32 (sumS data)) ∧ w'.cell? ⟨q7, 5, none⟩ = some (.int .i64 0) ∧ w'.cell? ⟨q7, 6, none⟩ = some (.int .i64 hh) ∧ w'.cell? ⟨q7, 7, none⟩ = some (.slice A2 0 c2)) (ds := [7, 10]) #[false, false, false, false, false, false, false, false, false, false, false] (by kernel_rfl) rfl rfl hS2 (fun hHeld => ?_)
 refine pu_ (i := 0) (N := some 129) (v := ?_) (a' := ?_) rfl rfl (by kernel_rfl) (fun _ _ _ h => h) (by rfl) ?_ ?_ ?_
 rotate_left
 · (intro w'; go_simp; with_reducible rfl)
 rotate_left
 · (simp only [put_s, List.set, i64_w, i32_w]; rfl)
 refine pu_ (i := 1) (N := some 130) (v := ?_) (a' := ?_) rfl rfl (by kernel_rfl) (fun _ _ _ h => h) (by rfl) ?_ ?_ ?_
 rotate_left
 · (intro w'; go_simp; with_reducible rfl)
 rotate_left
 · (simp only [put_s, List.set, i64_w, i32_w]; rfl)
 refine pu_ (i := 2) (N := some 131) (v := ?_) (a' := ?_) rfl rfl (by kernel_rfl) (fun _ _ _ h => h) (by rfl) ?_ ?_ ?_
 rotate_left
 · (intro w'; go_simp; with_reducible rfl)
 rotate_left
 · (simp only [put_s, List.set, i64_w, i32_w]; rfl)
 refine pu_ (i := 3) (N := some 132) (v := ?_) (a' := ?_) rfl rfl (by kernel_rfl) (fun _ _ _ h => h) (by rfl) ?_ ?_ ?_
 rotate_left
 · (intro w'; go_simp; with_reducible rfl)
 rotate_left
 · (simp only [put_s, List.set, i64_w, i32_w]; rfl)
 refine tk_ (i := 4) (N := some 133) (v := ?_) (a' := ?_) rfl rfl (by kernel_rfl) (fun _ _ _ h => h) (by rfl) ?_ hHeld ?_ ?_
 rotate_left
 ·
  intro w' s0
  obtain ⟨q1, q2, q3, q4, q5, q6, q7x, q8, q9⟩ := s0
  go_simp
  with_reducible rfl
 rotate_left
 · (simp only [put_s, List.set, i64_w, i32_w]; rfl)
 refine tk_ (i := 5) (N := some 134) (v := ?_) (a' := ?_) rfl rfl (by kernel_rfl) (fun _ _ _ h => h) (by rfl) ?_ hHeld ?_ ?_
 rotate_left
 ·
  intro w' s0
  obtain ⟨q1, q2, q3, q4, q5, q6, q7x, q8, q9⟩ := s0
  go_simp
  with_reducible rfl
 rotate_left
 · (simp only [put_s, List.set, i64_w, i32_w]; rfl)
 refine on_ (i := 6) (N := some 135) rfl rfl (by kernel_rfl) (by decide) (fun K hK => ?_)
 refine value_ (v := .slice (some ⟨w8.drew.heap.size, 0, none⟩) 1 1) (w1 := w8.drew.alloc (.cells #[.int .i64 ((i : Int) + 1), .string name, .int .u32 1, .int .i64 (0 : Int), .int .u32 (sumS data), .int .i64 0, .int .i64 hh, .slice A2 0 c2] 107)) (by rfl) rfl (by go_simp) ?_
 refine hK.out _ _ ⟨cellOf (ba _) hHeld.1, cellOf (ba _) hHeld.2.1, cellOf (ba _) hHeld.2.2.1, cellOf (ba _) hHeld.2.2.2.1, cellOf (ba _) hHeld.2.2.2.2.1, cellOf (ba _) hHeld.2.2.2.2.2.1, cellOf (ba _) hHeld.2.2.2.2.2.2.1, cellOf (ba _) hHeld.2.2.2.2.2.2.2.1, cellOf (ba _) hHeld.2.2.2.2.2.2.2.2⟩ (fun hHeld => ?_)
 clear hK K
 refine norm_ (a' := ?_) ?_ ?_
 rotate_left
 ·
  show Act.put _ (some 135) _ = _
  simp only [put_s, List.set, i64_w, i32_w]
  rfl
 refine la_ (i := 7) (N := some 136) rfl rfl (by kernel_rfl) (by decide) (fun K hK => ?_)
 refine Kd.R_append_step enK (w0 := w8.drew) 0 (by rfl) (.tmp 133) (.tmp 135) 100 107 (.agg #[.int .i64 0, .string ⟨#[]⟩, .int .u32 0, .int .i64 0, .int .u32 0, .int .i64 0, .int .i64 0, .slice none 0 0]) 88 rfl Tryz.underlying100 info107 rfl (by decide) (by decide) (Sl.mk zA2 zn2 zc2).enc ps2 (EP.mk ⟨⟨(i : Int) + 1, name, 1, (0 : Int), sumS data, 0⟩, hh, ds⟩ ⟨A2, 0, c2⟩) [.int .i64 ((i : Int) + 1), .string name, .int .u32 1, .int .i64 (0 : Int), .int .u32 (sumS data), .int .i64 0, .int .i64 hh, .slice A2 0 c2] (fun k => tagged w8.drew o8 (t + 12 + i) k = t + 12 + i) (fun _ => False) rfl rfl rfl (fun _ hk => hk.elim) (fun q hq => tagged_new (show w8.drew.heap.size ≤ q from hq)) (Ow.alloc (w := w8.drew) HZ2.out (Below.refl _ _)) (Below.refl 0 _) (Nat.zero_le _) (by omega) ?_
 intro v3 wa ho hb hg3 hat
 obtain ⟨s3, rfl, ho', hk'⟩ := Ow.pushed (w := w8.drew) HZ2.out (Below.refl _ _) ho hg3
 clear ho hb hg3 hat
 refine hK.out _ _ ?_
 clear hK K
 refine norm_ (a' := ?_) ?_ ?_
 rotate_left
 ·
  show Act.put _ (some 136) _ = _
  simp only [put_s, List.set, i64_w, i32_w]
  rfl
 refine pu_ (i := 8) (N := some 137) (v := ?_) (a' := ?_) rfl rfl (by kernel_rfl) (fun _ _ _ h => h) (by rfl) ?_ ?_ ?_
 rotate_left
 · (intro w'; go_simp; with_reducible rfl)
 rotate_left
 · (simp only [put_s, List.set, i64_w, i32_w]; rfl)
 refine pu_ (i := 9) (N := some 138) (v := ?_) (a' := ?_) rfl rfl (by kernel_rfl) (fun _ _ _ h => h) (by rfl) ?_ ?_ ?_
 rotate_left
 · (intro w'; go_simp; with_reducible rfl)
 rotate_left
 · (simp only [put_s, List.set, i64_w, i32_w]; rfl)
 refine la_ (i := 10) (N := none) rfl rfl (by kernel_rfl) (by decide) (fun K hK => ?_)
 have hbz := Blk.keep (w := w8.drew) HB2.out hk' (by rw [HG2.out]; omega)
 have c3 := Blk.cell (i := 4) hbz.1 rfl
 have z3 := Blk.frozen (i := 4) hbz.1
 refine skip_ (w1 := wa.setCell ⟨ga i, 4, none⟩ s3.enc) (by rfl) rfl (by simp only [Sl.enc]; go_simp) ?_
 refine hK.out _ _ ?_
 clear hK K
 refine done_ (by kernel_rfl) ?_
 have HEE := Lib.hid (entry_endD (S := (SV.setB S lb)) (x := (EP.mk ⟨⟨(i : Int) + 1, name, 1, (0 : Int), sumS data, 0⟩, hh, ds⟩ ⟨A2, 0, c2⟩)) HMC.out ht i hi HG2.out HB2.out HES.out HR8.out ho' hk')
 clear ho' hk' hbz c3 z3 hHeld hS2
 have HDN := Lib.hid (done_nil _ _ t g gs ga _ HEE.out.1 ht hdd)
 go_wp2_with (go_at_call 58; refine HDN.out.mono ?_; rintro e wb ⟨rfl, ob, d1, d2⟩)
 go_ret
 rw [HX.out]
 exact ⟨rfl, hokb, hnb, ob, d1, (((HK37.out.mono (fun _ h => h.elim)).trans HKC.out).trans HEE.out.2).trans d2⟩
end Go.Proofs.YtmofiicjaldmiaaGreatDoor.SwC
end
section
namespace Go.Proofs.YtmofiicjaldmiaaGreatDoor.SwD
open Go.RowKit Go.Shelf YtmofiicjaldmiaaGreatDoorW.PrintWords YtmofiicjaldmiaaGreatDoorW.PrintLast SvA SvB SvC SvD SvE SvF SvG SvH SvI SvJ SvK SvL SvM SvN SvO SvP SvQ SvR SvS SvT SvU SvV SvW SvX SvY SvZ SwA
set_option linter.unusedVariables false
set_option linter.unusedSimpArgs false
set_option maxRecDepth 100000 in
set_option maxHeartbeats 4000000 in
theorem put_neg_1 (w : World) (own : Nat → Nat) (t g gs : Nat) (ga : Nat → Nat) (S : SV) (H : SvMem w own t g gs ga S) (ht : t ≠ 0) (i : Nat) (hi : i < 8) (hS : BOk S.b) (hA : AOk S i) (name : ByteArray) (hs : name.size < 2 ^ 62) (hn16 : name.size ≤ 16) (hd : S.dead = false) (hok : nameOk name = true) (A : Option Addr) (n c td : Nat) (data : List Int) (hda : Rd u8K w own td ⟨A, n, c⟩ data) (htd : ¬ k3 t td) (hu : u8s data) (hn : n ≤ 131072) (hf : findI (fun e => e.hd.name == name) (S.ar i).ents < 0) (hroom : freeH (S.ar i) ≠ [] ∧ (freeD (S.ar i) (many n)).length = many n) (hlim : S.b.lim = false) (hpe : S.b.pend = []) (hn0 : 0 < n) :
  Calls Tryz.prog 23 #[pt g, .int .i64 ((i : Int) + 1), .string name, .slice A n c] w (ActP w own t g gs ga S.b.n (putS S i none name data)) := by
 have hcn := named_yes w own t g gs ga S H i hi name hs hd hok (by have := hA.el; omega)
 have HH := Lib.hid H
 generalize hr : findI (fun e : EN => e.hd.name == name) (S.ar i).ents = r at *
 have hrk : decide (r ≥ 0) = false := by simp; omega
 clear hr
 have HC := Lib.hid hcn
 have HFH := Lib.hid (fun (W : World) (h : Below w.heap.size w W) => heads_ok W _ _ _ _ _ ((HH.out.below h).ar i hi) (by have := hA.el; omega) (by have := hA.s16; have := hA.hs; omega))
 have HFD := Lib.hid (fun (W : World) (h : Below w.heap.size w W) => data_ok W _ _ _ _ _ ((HH.out.below h).ar i hi) (by have := hA.el; omega) (by have := hA.s16; have := hA.hs; omega) (by have := hA.s16; omega) (fun e he => by have := (hA.eo e he).2.2.2; omega) (many n) (by unfold many; omega))
 have HAR := Lib.hid (fun (W : World) (h : Below w.heap.size w W) => ar_c1 ((HH.out.below h).ar i hi))
 have HDA := Lib.hid hda
 have hdl : data.length = n := hda.1.1
 have hnc : n ≤ c := hda.2.1
 have HHA := Lib.hid hA
 clear hcn H hok hda hA
 go_enter Tryz.func23, Tryz.ntmps23
 go_upto_region 7 with (first | (go_at_call 50; refine HC.out.mono ?_; rintro e w1 ⟨rfl, hb1⟩; have q3 := (HAR.out w1 hb1).2.2.2) | (go_at_call 51; refine Calls.mono (HFH.out w1 hb1) ?_; rintro e w2 ⟨⟨A1, n1, c1⟩, rfl, hN1⟩; unfold Sl.enc; dsimp only))
 have hb2 : Below w.heap.size w w2 := hb1.trans (hN1.below.mono hb1.size)
 have HN1 := Lib.hid hN1
 clear hN1 q3
 have hS0 : w2.cell? ⟨ga i, 2, none⟩ = some (.int .i64 ((S.ar i).sec : Int)) ∧ w2.cell? ⟨ga i, 3, none⟩ = some (.int .i64 ((S.ar i).heads : Int)) := ⟨(HAR.out w2 hb2).2.2.1, (HAR.out w2 hb2).2.2.2⟩
 refine start_ (n := 14) (S := fun w' => w'.cell? ⟨ga i, 2, none⟩ = some (.int .i64 ((S.ar i).sec : Int)) ∧ w'.cell? ⟨ga i, 3, none⟩ = some (.int .i64 ((S.ar i).heads : Int))) (ds := []) #[false, false, false, false, false, false, false, false, false, false, false, false, false, false] (by kernel_rfl) rfl rfl hS0 (fun hHeld => ?_)
 refine pu_ (i := 0) (N := some 38) (v := ?_) (a' := ?_) rfl rfl (by kernel_rfl) (fun _ _ _ h => h) (by rfl) ?_ ?_ ?_
 rotate_left
 · (intro w'; go_simp; with_reducible rfl)
 rotate_left
 · (simp only [put_s, List.set, i64_w, i32_w]; rfl)
 refine pu_ (i := 1) (N := some 39) (v := ?_) (a' := ?_) rfl rfl (by kernel_rfl) (fun _ _ _ h => h) (by rfl) ?_ ?_ ?_
 rotate_left
 · (intro w'; go_simp; with_reducible rfl)
 rotate_left
 · (simp only [put_s, List.set, i64_w, i32_w]; rfl)
 refine pu_ (i := 2) (N := some 40) (v := ?_) (a' := ?_) rfl rfl (by kernel_rfl) (fun _ _ _ h => h) (by rfl) ?_ ?_ ?_
 rotate_left
 · (intro w'; go_simp; with_reducible rfl)
 rotate_left
 · (simp only [put_s, List.set, i64_w, i32_w]; rfl)
 refine pu_ (i := 3) (N := some 41) (v := ?_) (a' := ?_) rfl rfl (by kernel_rfl) (fun _ _ _ h => h) (by rfl) ?_ ?_ ?_
 rotate_left
 · (intro w'; go_simp; with_reducible rfl)
 rotate_left
 · (simp only [put_s, List.set, i64_w, i32_w]; rfl)
 refine tk_ (i := 4) (N := some 42) (v := ?_) (a' := ?_) rfl rfl (by kernel_rfl) (fun _ _ _ h => h) (by rfl) ?_ hHeld ?_ ?_
 rotate_left
 ·
  intro w' s0
  obtain ⟨q1, q2⟩ := s0
  go_simp
  with_reducible rfl
 rotate_left
 · (simp only [put_s, List.set, i64_w, i32_w]; rfl)
 refine pu_ (i := 5) (N := some 43) (v := ?_) (a' := ?_) rfl rfl (by kernel_rfl) (fun _ _ _ h => h) (by rfl) ?_ ?_ ?_
 rotate_left
 · (intro w'; go_simp; with_reducible rfl)
 rotate_left
 · (simp only [put_s, List.set, i64_w, i32_w]; rfl)
 refine pu_ (i := 6) (N := some 44) (v := ?_) (a' := ?_) rfl rfl (by kernel_rfl) (fun _ _ _ h => h) (by rfl) ?_ ?_ ?_
 rotate_left
 · (intro w'; go_simp; with_reducible rfl)
 rotate_left
 · (simp only [put_s, List.set, i64_w, i32_w]; rfl)
 refine pu_ (i := 7) (N := some 45) (v := ?_) (a' := ?_) rfl rfl (by kernel_rfl) (fun _ _ _ h => h) (by rfl) ?_ ?_ ?_
 rotate_left
 · (intro w'; go_simp; with_reducible rfl)
 rotate_left
 · (simp only [put_s, List.set, i64_w, i32_w]; rfl)
 refine tk_ (i := 8) (N := some 46) (v := ?_) (a' := ?_) rfl rfl (by kernel_rfl) (fun _ _ _ h => h) (by rfl) ?_ hHeld ?_ ?_
 rotate_left
 ·
  intro w' s0
  obtain ⟨q1, q2⟩ := s0
  go_simp
  with_reducible rfl
 rotate_left
 · (simp only [put_s, List.set, i64_w, i32_w]; rfl)
 refine pu_ (i := 9) (N := some 47) (v := ?_) (a' := ?_) rfl rfl (by kernel_rfl) (fun _ _ _ h => h) (by rfl) ?_ ?_ ?_
 rotate_left
 · (intro w'; go_simp; with_reducible rfl)
 rotate_left
 · (simp only [put_s, List.set, i64_w, i32_w]; rfl)
 refine pu_ (i := 10) (N := some 48) (v := ?_) (a' := ?_) rfl rfl (by kernel_rfl) (fun _ _ _ h => h) (by rfl) ?_ ?_ ?_
 rotate_left
 · (intro w'; go_simp; with_reducible rfl)
 rotate_left
 · (simp only [put_s, List.set, i64_w, i32_w]; rfl)
 refine on_ (i := 11) (N := some 49) rfl rfl (by kernel_rfl) (by decide) (fun K hK => ?_)
 refine goes_ Tryz.func53 (by kernel_rfl) rfl #[.int .i64 (n : Int)] (by first | rfl | (simp [Act.eval]; done)) rfl rfl (by first | rfl | (simp [Act.eval]; done)) ?_
 refine Calls.mono (many_ok _ n (by omega)) ?_
 rintro e w' ⟨rfl, rfl⟩
 refine ⟨_, rfl, ?_⟩
 refine hK.out _ _ hHeld (fun hHeld => ?_)
 clear hK K
 refine norm_ (a' := ?_) ?_ ?_
 rotate_left
 ·
  show Act.put _ (some 49) _ = _
  simp only [put_s, List.set, i64_w, i32_w]
  rfl
 refine on_ (i := 12) (N := some 50) rfl rfl (by kernel_rfl) (by decide) (fun K hK => ?_)
 refine goes_ Tryz.func51 (by kernel_rfl) rfl #[pt (ga i), .int .i64 ((S.ar i).heads : Int), .int .i64 ((S.ar i).sec : Int), .int .i64 (many n : Int), .func (.func 54) #[] #[]] (by first | rfl | (simp [Act.eval]; done)) rfl rfl (by first | rfl | (simp [Act.eval]; done)) ?_
 refine Calls.mono (HFD.out w2.drew hb2.drew) ?_
 rintro e w3 ⟨⟨A2, n2, c2⟩, rfl, hN2⟩
 unfold Sl.enc; dsimp only
 refine ⟨_, rfl, ?_⟩
 refine hK.out _ _ ⟨cellOf hN2.below hHeld.1, cellOf hN2.below hHeld.2⟩ (fun hHeld => ?_)
 clear hK K
 refine norm_ (a' := ?_) ?_ ?_
 rotate_left
 ·
  show Act.put _ (some 50) _ = _
  simp only [put_s, List.set, i64_w, i32_w]
  rfl
 refine pu_ (i := 13) (N := some 13) (v := ?_) (a' := ?_) rfl rfl (by kernel_rfl) (fun _ _ _ h => h) (by rfl) ?_ ?_ ?_
 rotate_left
 · (intro w'; go_simp; with_reducible rfl)
 rotate_left
 · (simp only [put_s, List.set, i64_w, i32_w]; rfl)
 refine done_ (by kernel_rfl) ?_
 have hb3 : Below w.heap.size w w3 := hb2.drew.trans (hN2.below.mono hb2.size)
 have HN2 := Lib.hid hN2
 clear hHeld hN2 hS0
 go_upto_region 9 with (fail)
 obtain ⟨hh, hfh⟩ : ∃ hh, freeH (S.ar i) = [hh] := by
  have := freeH_len (S.ar i)
  rcases hfl : freeH (S.ar i) with _ | ⟨x, _ | ⟨y, l⟩⟩
  · exact absurd hfl hroom.1
  · exact ⟨x, rfl⟩
  · rw [hfl] at this; simp at this
 rw [hfh] at HN1
 obtain rfl : n1 = 1 := HN1.out.len
 obtain ⟨b1, hA1, hb1l⟩ := HN1.out.hd Nat.one_pos
 dsimp only at hA1
 subst hA1
 have hhm : 0 ≤ hh ∧ hh < ((S.ar i).heads : Int) := by have := freeH_mem (show hh ∈ freeH (S.ar i) by rw [hfh]; exact List.mem_singleton.2 rfl); exact ⟨this.1, this.2.1⟩
 generalize hds : freeD (S.ar i) (many n) = ds at *
 have hdm : ∀ x ∈ ds, ((S.ar i).heads : Int) ≤ x ∧ x < ((S.ar i).sec : Int) := fun x hx => by rw [← hds] at hx; have := freeD_mem hx; exact ⟨this.1, this.2.1⟩
 have hdsl : ds.length = many n := hroom.2
 have hn2 : n2 = many n := HN2.out.len.trans hdsl
 subst hn2
 have hm0 : 0 < many n := by unfold many; omega
 have hm1 : (0 : Int) < (many n : Int) := by omega
 have hm2 : decide ((many n : Int) > 0) = true := decide_eq_true hm1
 have ed : decide ((many n : Int) < (many n : Int)) = false := by simp
 have hm4 : many n < 2 ^ 30 := by unfold many; omega
 obtain ⟨b2, hA2, hb2l⟩ := HN2.out.hd hm0
 dsimp only at hA2
 subst hA2
 obtain ⟨d0, hd0⟩ : ∃ d0, ds[0]? = some d0 := ⟨_, List.getElem?_eq_getElem (by omega)⟩
 have HDM := Lib.hid hdm
 have HHM := Lib.hid hhm
 have HDS := Lib.hid hds
 have HFH' := Lib.hid hfh
 have HDSL := Lib.hid hdsl
 have HRM := Lib.hid hroom
 have HDL := Lib.hid hdl
 clear hdm hhm hds hfh hdsl hroom hdl
 have HD0 := Lib.hid hd0
 clear hd0
 have HSUM := Lib.hid (sum_ok w3 A n c data (BytesAt.below (B := 0) (A := A) (n := n) HDA.out.1 hb3) hu (by omega) hnc)
 go_upto_region 12 with (first | (go_at_call 53; refine (many_ok _ n (by omega)).mono ?_; rintro e w' ⟨rfl, rfl⟩) | (go_at_call 55; refine HSUM.out.mono ?_; rintro e w' ⟨rfl, rfl⟩))
 have HB0 := Lib.hid (hb3.alloc hb3.size (Obj.cells #[.int .i64 ((i : Int) + 1), .string name, .int .u32 1, .int .i64 (n : Int), .int .u32 (sumS data), .int .i64 0] 105))
 have hB4 : Blk (w3.alloc (Obj.cells #[.int .i64 ((i : Int) + 1), .string name, .int .u32 1, .int .i64 (n : Int), .int .u32 (sumS data), .int .i64 0] 105)) w3.heap.size #[.int .i64 ((i : Int) + 1), .string name, .int .u32 1, .int .i64 (n : Int), .int .u32 (sumS data), .int .i64 0] 105 := blkNew rfl
 have hbA := ba (w := w3) (Obj.cells #[.int .i64 ((i : Int) + 1), .string name, .int .u32 1, .int .i64 (n : Int), .int .u32 (sumS data), .int .i64 0] 105)
 have hz4 : (w3.alloc (Obj.cells #[.int .i64 ((i : Int) + 1), .string name, .int .u32 1, .int .i64 (n : Int), .int .u32 (sumS data), .int .i64 0] 105)).heap.size = w3.heap.size + 1 := by simp
 generalize w3.alloc (Obj.cells #[.int .i64 ((i : Int) + 1), .string name, .int .u32 1, .int .i64 (n : Int), .int .u32 (sumS data), .int .i64 0] 105) = W4 at *
 have hpw : w.heap.size ≤ w3.heap.size := hb3.size
 have hB5 := hB4
 have hb5 := hbA
 have hz5 := hz4
 clear hB4 hbA hz4
 have c5 : W4.cell? ⟨w3.heap.size, 5, none⟩ = some (.int .i64 0) := Blk.cell (i := 5) hB5 rfl
 have z5 : W4.frozen? ⟨w3.heap.size, 5, none⟩ = false := Blk.frozen hB5
 have cd0 : W4.cell? ⟨b2, 0, none⟩ = some (.int .i64 d0) := cellOf hb5 (HN2.out.cell 0 d0 HD0.out)
 go_upto_region 16 with (fail)
 have hB6 := Blk.set (i := 5) hB5 (.int .i64 d0)
 have hb6 : Below w3.heap.size w3 (W4.setCell ⟨w3.heap.size, 5, none⟩ (.int .i64 d0)) := hb5.setCell (p := ⟨w3.heap.size, 5, none⟩) (Nat.le_refl _) _
 have hz6 : (W4.setCell ⟨w3.heap.size, 5, none⟩ (.int .i64 d0)).heap.size = w3.heap.size + 1 := by rw [World.size_setCell]; exact hz5
 generalize W4.setCell ⟨w3.heap.size, 5, none⟩ (.int .i64 d0) = W6 at *
 clear c5 z5 cd0 hB5 hb5 hz5
 have ch : W6.cell? ⟨b1, 0, none⟩ = some (.int .i64 hh) := cellOf hb6 (cellOf HN2.out.below (HN1.out.cell 0 hh rfl))
 simp at hB6
 have hS1 : W6.cell? ⟨w3.heap.size, 0, none⟩ = some (.int .i64 ((i : Int) + 1)) ∧ W6.cell? ⟨w3.heap.size, 1, none⟩ = some (.string name) ∧ W6.cell? ⟨w3.heap.size, 2, none⟩ = some (.int .u32 1) ∧ W6.cell? ⟨w3.heap.size, 3, none⟩ = some (.int .i64 (n : Int)) ∧ W6.cell? ⟨w3.heap.size, 4, none⟩ = some (.int .u32 (sumS data)) ∧ W6.cell? ⟨w3.heap.size, 5, none⟩ = some (.int .i64 d0) ∧ W6.cell? ⟨b1, 0, none⟩ = some (.int .i64 hh) :=
  ⟨Blk.cell (i := 0) hB6 rfl, Blk.cell (i := 1) hB6 rfl, Blk.cell (i := 2) hB6 rfl, Blk.cell (i := 3) hB6 rfl, Blk.cell (i := 4) hB6 rfl, Blk.cell (i := 5) hB6 rfl, ch⟩
 clear ch
 refine start_ (n := 8) (S := fun w' => w'.cell? ⟨w3.heap.size, 0, none⟩ = some (.int .i64 ((i : Int) + 1)) ∧ w'.cell? ⟨w3.heap.size, 1, none⟩ = some (.string name) ∧ w'.cell? ⟨w3.heap.size, 2, none⟩ = some (.int .u32 1) ∧ w'.cell? ⟨w3.heap.size, 3, none⟩ = some (.int .i64 (n : Int)) ∧ w'.cell? ⟨w3.heap.size, 4, none⟩ = some (.int .u32 (sumS data)) ∧ w'.cell? ⟨w3.heap.size, 5, none⟩ = some (.int .i64 d0) ∧ w'.cell? ⟨b1, 0, none⟩ = some (.int .i64 hh)) (ds := []) #[false, false, false, false, false, false, false, false] (by kernel_rfl) rfl rfl hS1 (fun hHeld => ?_)
 refine tk_ (i := 0) (N := some 106) (v := ?_) (a' := ?_) rfl rfl (by kernel_rfl) (fun _ _ _ h => h) (by rfl) ?_ hHeld ?_ ?_
 rotate_left
 ·
  intro w' s0
  obtain ⟨q1, q2, q3, q4, q5, q6, q7⟩ := s0
  go_simp
  with_reducible rfl
 rotate_left
 · (simp only [put_s, List.set, i64_w, i32_w]; rfl)
 refine pu_ (i := 1) (N := some 107) (v := ?_) (a' := ?_) rfl rfl (by kernel_rfl) (fun _ _ _ h => h) (by rfl) ?_ ?_ ?_
 rotate_left
 · (intro w'; go_simp; with_reducible rfl)
 rotate_left
 · (simp only [put_s, List.set, i64_w, i32_w]; rfl)
 refine pu_ (i := 2) (N := some 108) (v := ?_) (a' := ?_) rfl rfl (by kernel_rfl) (fun _ _ _ h => h) (by rfl) ?_ ?_ ?_
 rotate_left
 · (intro w'; go_simp; with_reducible rfl)
 rotate_left
 · (simp only [put_s, List.set, i64_w, i32_w]; rfl)
 refine tk_ (i := 3) (N := some 109) (v := ?_) (a' := ?_) rfl rfl (by kernel_rfl) (fun _ _ _ h => h) (by rfl) ?_ hHeld ?_ ?_
 rotate_left
 ·
  intro w' s0
  obtain ⟨q1, q2, q3, q4, q5, q6, q7⟩ := s0
  go_simp
  with_reducible rfl
 rotate_left
 · (simp only [put_s, List.set, i64_w, i32_w]; rfl)
 refine pu_ (i := 4) (N := some 110) (v := ?_) (a' := ?_) rfl rfl (by kernel_rfl) (fun _ _ _ h => h) (by rfl) ?_ ?_ ?_
 rotate_left
 · (intro w'; go_simp; with_reducible rfl)
 rotate_left
 · (simp only [put_s, List.set, i64_w, i32_w]; rfl)
 refine pu_ (i := 5) (N := some 111) (v := ?_) (a' := ?_) rfl rfl (by kernel_rfl) (fun _ _ _ h => h) (by rfl) ?_ ?_ ?_
 rotate_left
 · (intro w'; go_simp; with_reducible rfl)
 rotate_left
 · (simp only [put_s, List.set, i64_w, i32_w]; rfl)
 refine on_ (i := 6) (N := some 16) rfl rfl (by kernel_rfl) (by decide) (fun K hK => ?_)
 refine value_ (v := pt W6.drew.heap.size) (w1 := W6.drew.alloc (.cells #[.int .i64 0, .string ⟨#[]⟩, .int .u32 0, .int .i64 0, .int .u32 0, .int .i64 0, .int .i64 0, .slice none 0 0] 107)) (by rfl) rfl (by go_simp) ?_
 refine hK.out _ _ ⟨cellOf (ba _) hHeld.1, cellOf (ba _) hHeld.2.1, cellOf (ba _) hHeld.2.2.1, cellOf (ba _) hHeld.2.2.2.1, cellOf (ba _) hHeld.2.2.2.2.1, cellOf (ba _) hHeld.2.2.2.2.2.1, cellOf (ba _) hHeld.2.2.2.2.2.2⟩ (fun hHeld => ?_)
 clear hK K
 refine norm_ (a' := ?_) ?_ ?_
 rotate_left
 ·
  show Act.put _ (some 16) _ = _
  simp only [put_s, List.set, i64_w, i32_w]
  rfl
 refine on_ (i := 7) (N := none) rfl rfl (by kernel_rfl) (by decide) (fun K hK => ?_)
 refine skip_ (w1 := W6.drew.alloc (.cells #[.int .i64 ((i : Int) + 1), .string name, .int .u32 1, .int .i64 (n : Int), .int .u32 (sumS data), .int .i64 d0, .int .i64 hh, .slice (some ⟨b2, 0, none⟩) (many n) c2] 107)) (by rfl) rfl (by go_simp) ?_
 refine hK.out _ _ ⟨cellOf (ba (w := W6.drew) _) hS1.1, cellOf (ba (w := W6.drew) _) hS1.2.1, cellOf (ba (w := W6.drew) _) hS1.2.2.1, cellOf (ba (w := W6.drew) _) hS1.2.2.2.1, cellOf (ba (w := W6.drew) _) hS1.2.2.2.2.1, cellOf (ba (w := W6.drew) _) hS1.2.2.2.2.2.1, cellOf (ba (w := W6.drew) _) hS1.2.2.2.2.2.2⟩ (fun hHeld => ?_)
 clear hK K
 refine done_ (by kernel_rfl) ?_
 have hb37 : Below w3.heap.size w3 (W6.drew.alloc (.cells #[.int .i64 ((i : Int) + 1), .string name, .int .u32 1, .int .i64 (n : Int), .int .u32 (sumS data), .int .i64 d0, .int .i64 hh, .slice (some ⟨b2, 0, none⟩) (many n) c2] 107)) := hb6.drew.alloc (by rw [World.size_drew]; omega) _
 have hK37 := (Kp.below (ts := fun _ => False) (own := own) hb3 0).trans (Kp.below (ts := fun _ => False) (own := tagged w own 0) hb37 0)
 have hB7 : Blk (W6.drew.alloc (.cells #[.int .i64 ((i : Int) + 1), .string name, .int .u32 1, .int .i64 (n : Int), .int .u32 (sumS data), .int .i64 d0, .int .i64 hh, .slice (some ⟨b2, 0, none⟩) (many n) c2] 107)) W6.drew.heap.size #[.int .i64 ((i : Int) + 1), .string name, .int .u32 1, .int .i64 (n : Int), .int .u32 (sumS data), .int .i64 d0, .int .i64 hh, .slice (some ⟨b2, 0, none⟩) (many n) c2] 107 := blkNew rfl
 have hR7 := (HN2.out.rd own (w0 := w) hb2.size).keep i64K_K (by decide) (Kp.below (ts := fun _ => False) (own := tagged w own 0) hb37 0) (fun q => q)
 have hO7 : tagged w3 (tagged w own 0) 0 W6.drew.heap.size = 0 := tagged_new (by rw [World.size_drew]; omega)
 have hD7 := HDA.out.keep u8K_K (by decide) hK37 (fun q => q)
 have hM7 := HH.out.keep hK37 (fun q => q) (fun _ _ _ q => q)
 clear hb37 hHeld hS1 hB6
 generalize (W6.drew.alloc (.cells #[.int .i64 ((i : Int) + 1), .string name, .int .u32 1, .int .i64 (n : Int), .int .u32 (sumS data), .int .i64 d0, .int .i64 hh, .slice (some ⟨b2, 0, none⟩) (many n) c2] 107)) = W7 at *
 generalize tagged w3 (tagged w own 0) 0 = o7 at *
 generalize W6.drew.heap.size = q7 at *
 have HNE : newE (S.ar i) ((i : Int) + 1) name 1 data = ⟨⟨(i : Int) + 1, name, 1, (n : Int), sumS data, d0⟩, hh, ds⟩ := by
  unfold newE
  rw [HDL.out, HFH'.out, HDS.out]
  have : ds.headD 0 = d0 := by
   have := HD0.out
   cases ds with
   | nil => simp at this
   | cons x l => simp at this; exact this
  rw [this]
  rfl
 have hd0m : d0 ∈ ds := List.mem_of_getElem? HD0.out
 have hd0b := HDM.out d0 hd0m
 have hs16 := HHA.out.s16
 have hhs := HHA.out.hs
 have hXok : HD.ok ⟨(i : Int) + 1, name, 1, (n : Int), sumS data, d0⟩ := ⟨⟨by show (0 : Int) ≤ (i : Int) + 1; omega, by show (i : Int) + 1 < 256; omega⟩, hn16, ⟨by show (0 : Int) ≤ 1; omega, by show 1 < (4294967296 : Int); omega⟩, ⟨by show (0 : Int) ≤ (n : Int); omega, by show (n : Int) < 4294967296; omega⟩, xor_u32_bd _ _, ⟨by show (0 : Int) ≤ d0; omega, by show d0 < (65536 : Int); omega⟩⟩
 have hL := lay_ok W7 o7 t g gs ga S hM7 ht i hi hS HHA.out.fs hs16 (EP.mk ⟨⟨(i : Int) + 1, name, 1, (n : Int), sumS data, d0⟩, hh, ds⟩ ⟨(some ⟨b2, 0, none⟩), (many n), c2⟩) hR7 hXok (fun y hy => ⟨by have := (HDM.out y hy).1; omega, (HDM.out y hy).2⟩) ⟨HHM.out.1, by have := HHM.out.2; show hh < ((S.ar i).sec : Int); omega⟩ A n c td data hD7 htd hu (by omega) HDSL.out (by have := HDSL.out; rw [hpe]; show 0 + ds.length + 2 < _; omega)
 rw [layS_lim _ _ _ _ hlim] at hL
 have hblim := layB_lim (S.ar i) ⟨⟨(i : Int) + 1, name, 1, (n : Int), sumS data, d0⟩, hh, ds⟩ data S.b hlim
 have hbp := layB_pend (S.ar i) ⟨⟨(i : Int) + 1, name, 1, (n : Int), sumS data, d0⟩, hh, ds⟩ data S.b
 have HPS : putS S i none name data = SV.setE (SV.setB S (layB (S.ar i) ⟨⟨(i : Int) + 1, name, 1, (n : Int), sumS data, d0⟩, hh, ds⟩ data S.b)) i (((SV.setB S (layB (S.ar i) ⟨⟨(i : Int) + 1, name, 1, (n : Int), sumS data, d0⟩, hh, ds⟩ data S.b)).ar i).ents ++ [⟨⟨(i : Int) + 1, name, 1, (n : Int), sumS data, d0⟩, hh, ds⟩]) := by
  unfold putS
  simp only
  rw [HNE]
 have HX := Lib.hid HPS
 have hDe : ((SV.setB S (layB (S.ar i) ⟨⟨(i : Int) + 1, name, 1, (n : Int), sumS data, d0⟩, hh, ds⟩ data S.b)).ar i).ents.length ≤ (S.ar i).ents.length := Nat.le_refl _
 have hdd : (SV.setB S (layB (S.ar i) ⟨⟨(i : Int) + 1, name, 1, (n : Int), sumS data, d0⟩, hh, ds⟩ data S.b)).dead = false := hd
 have hDar : ((SV.setB S (layB (S.ar i) ⟨⟨(i : Int) + 1, name, 1, (n : Int), sumS data, d0⟩, hh, ds⟩ data S.b)).ar i).ten = (S.ar i).ten := rfl
 clear HPS
 generalize hLB : (layB (S.ar i) ⟨⟨(i : Int) + 1, name, 1, (n : Int), sumS data, d0⟩, hh, ds⟩ data S.b) = lb at *
 clear hLB HNE hDar hpe hlim hblim hbp
 have HL := Lib.hid hL
 have HOK := Lib.hid hXok
 clear hL hXok
 have e0 := Blk.cell (i := 0) hB7 rfl
 have e1 := Blk.cell (i := 1) hB7 rfl
 have e2 := Blk.cell (i := 2) hB7 rfl
 have e3 := Blk.cell (i := 3) hB7 rfl
 have e4 := Blk.cell (i := 4) hB7 rfl
 have e5 := Blk.cell (i := 5) hB7 rfl
 have e6 := Blk.cell (i := 6) hB7 rfl
 have e7 := Blk.cell (i := 7) hB7 rfl
 go_upto_region 21 with (go_at_call 56; refine Calls.mono HL.out ?_; rintro e w8 ⟨rfl, l1, l2, o8, l3, l4⟩; simp only [if_true])
 have HMC := Lib.hid l3
 have hkc : Kp (k20 t) W7 o7 w8 o8 := l4.mono (fun q h => ⟨by rcases h with h | h | h <;> omega, by rcases h with h | h | h <;> omega⟩)
 have hokb : BOk (SV.setB S lb).b := l1
 have hnb : (SV.setB S lb).b.n = S.b.n := l2
 clear l1 l2 l3 l4
 obtain ⟨⟨zA2, zn2, zc2⟩, ps2, hg2, hb2x, hz2, hes2⟩ := HMC.out.ar i hi
 have hpn : ps2.length < 2 ^ 30 := by
  have h1 : ps2.length = ((SV.setB S lb).ar i).ents.length := by rw [← hes2.1, List.length_map]
  have := HHA.out.el
  omega
 have hq8 := (hB7.keep hkc (by rw [hO7]; intro h; have := h.1; omega)).1
 have hr8 := hR7.keep i64K_K (by decide) hkc (by intro h; have := h.1; omega)
 have hS2 : w8.cell? ⟨ga i, 4, none⟩ = some (.slice zA2 zn2 zc2) ∧ w8.cell? ⟨q7, 0, none⟩ = some (.int .i64 ((i : Int) + 1)) ∧ w8.cell? ⟨q7, 1, none⟩ = some (.string name) ∧ w8.cell? ⟨q7, 2, none⟩ = some (.int .u32 1) ∧ w8.cell? ⟨q7, 3, none⟩ = some (.int .i64 (n : Int)) ∧ w8.cell? ⟨q7, 4, none⟩ = some (.int .u32 (sumS data)) ∧ w8.cell? ⟨q7, 5, none⟩ = some (.int .i64 d0) ∧ w8.cell? ⟨q7, 6, none⟩ = some (.int .i64 hh) ∧ w8.cell? ⟨q7, 7, none⟩ = some (.slice (some ⟨b2, 0, none⟩) (many n) c2) :=
  ⟨Blk.cell (i := 4) hb2x rfl, Blk.cell (i := 0) hq8 rfl, Blk.cell (i := 1) hq8 rfl, Blk.cell (i := 2) hq8 rfl, Blk.cell (i := 3) hq8 rfl, Blk.cell (i := 4) hq8 rfl, Blk.cell (i := 5) hq8 rfl, Blk.cell (i := 6) hq8 rfl, Blk.cell (i := 7) hq8 rfl⟩
 have HZ2 := Lib.hid hz2
 have HES := Lib.hid hes2
 have HB2 := Lib.hid hb2x
 have HG2 := Lib.hid hg2
 have HR8 := Lib.hid hr8
 have HKC := Lib.hid hkc
 have HK37 := Lib.hid hK37
 clear e0 e1 e2 e3 e4 e5 e6 e7
 clear hz2 hes2 hb2x hg2 hr8 hkc hq8 hR7 hD7 hM7 hB7 hK37
 refine start_ (n := 11) (S := fun w' => w'.cell? ⟨ga i, 4, none⟩ = some (.slice zA2 zn2 zc2) ∧ w'.cell? ⟨q7, 0, none⟩ = some (.int .i64 ((i : Int) + 1)) ∧ w'.cell? ⟨q7, 1, none⟩ = some (.string name) ∧ w'.cell? ⟨q7, 2, none⟩ = some (.int .u32 1) ∧ w'.cell? ⟨q7, 3, none⟩ = some (.int .i64 (n : Int)) ∧ w'.cell? ⟨q7, 4, none⟩ = some (.int .u32 (sumS data)) ∧ w'.cell? ⟨q7, 5, none⟩ = some (.int .i64 d0) ∧ w'.cell? ⟨q7, 6, none⟩ = some (.int .i64 hh) ∧ w'.cell? ⟨q7, 7, none⟩ = some (.slice (some ⟨b2, 0, none⟩) (many n) c2)) (ds := [7, 10]) #[false, false, false, false, false, false, false, false, false, false, false] (by kernel_rfl) rfl rfl hS2 (fun hHeld => ?_)
 refine pu_ (i := 0) (N := some 129) (v := ?_) (a' := ?_) rfl rfl (by kernel_rfl) (fun _ _ _ h => h) (by rfl) ?_ ?_ ?_
 rotate_left
 · (intro w'; go_simp; with_reducible rfl)
 rotate_left
 · (simp only [put_s, List.set, i64_w, i32_w]; rfl)
 refine pu_ (i := 1) (N := some 130) (v := ?_) (a' := ?_) rfl rfl (by kernel_rfl) (fun _ _ _ h => h) (by rfl) ?_ ?_ ?_
 rotate_left
 · (intro w'; go_simp; with_reducible rfl)
 rotate_left
 · (simp only [put_s, List.set, i64_w, i32_w]; rfl)
 refine pu_ (i := 2) (N := some 131) (v := ?_) (a' := ?_) rfl rfl (by kernel_rfl) (fun _ _ _ h => h) (by rfl) ?_ ?_ ?_
 rotate_left
 · (intro w'; go_simp; with_reducible rfl)
 rotate_left
 · (simp only [put_s, List.set, i64_w, i32_w]; rfl)
 refine pu_ (i := 3) (N := some 132) (v := ?_) (a' := ?_) rfl rfl (by kernel_rfl) (fun _ _ _ h => h) (by rfl) ?_ ?_ ?_
 rotate_left
 · (intro w'; go_simp; with_reducible rfl)
 rotate_left
 · (simp only [put_s, List.set, i64_w, i32_w]; rfl)
 refine tk_ (i := 4) (N := some 133) (v := ?_) (a' := ?_) rfl rfl (by kernel_rfl) (fun _ _ _ h => h) (by rfl) ?_ hHeld ?_ ?_
 rotate_left
 ·
  intro w' s0
  obtain ⟨q1, q2, q3, q4, q5, q6, q7x, q8, q9⟩ := s0
  go_simp
  with_reducible rfl
 rotate_left
 · (simp only [put_s, List.set, i64_w, i32_w]; rfl)
 refine tk_ (i := 5) (N := some 134) (v := ?_) (a' := ?_) rfl rfl (by kernel_rfl) (fun _ _ _ h => h) (by rfl) ?_ hHeld ?_ ?_
 rotate_left
 ·
  intro w' s0
  obtain ⟨q1, q2, q3, q4, q5, q6, q7x, q8, q9⟩ := s0
  go_simp
  with_reducible rfl
 rotate_left
 · (simp only [put_s, List.set, i64_w, i32_w]; rfl)
 refine on_ (i := 6) (N := some 135) rfl rfl (by kernel_rfl) (by decide) (fun K hK => ?_)
 refine value_ (v := .slice (some ⟨w8.drew.heap.size, 0, none⟩) 1 1) (w1 := w8.drew.alloc (.cells #[.int .i64 ((i : Int) + 1), .string name, .int .u32 1, .int .i64 (n : Int), .int .u32 (sumS data), .int .i64 d0, .int .i64 hh, .slice (some ⟨b2, 0, none⟩) (many n) c2] 107)) (by rfl) rfl (by go_simp) ?_
 refine hK.out _ _ ⟨cellOf (ba _) hHeld.1, cellOf (ba _) hHeld.2.1, cellOf (ba _) hHeld.2.2.1, cellOf (ba _) hHeld.2.2.2.1, cellOf (ba _) hHeld.2.2.2.2.1, cellOf (ba _) hHeld.2.2.2.2.2.1, cellOf (ba _) hHeld.2.2.2.2.2.2.1, cellOf (ba _) hHeld.2.2.2.2.2.2.2.1, cellOf (ba _) hHeld.2.2.2.2.2.2.2.2⟩ (fun hHeld => ?_)
 clear hK K
 refine norm_ (a' := ?_) ?_ ?_
 rotate_left
 ·
  show Act.put _ (some 135) _ = _
  simp only [put_s, List.set, i64_w, i32_w]
  rfl
 refine la_ (i := 7) (N := some 136) rfl rfl (by kernel_rfl) (by decide) (fun K hK => ?_)
 refine Kd.R_append_step enK (w0 := w8.drew) 0 (by rfl) (.tmp 133) (.tmp 135) 100 107 (.agg #[.int .i64 0, .string ⟨#[]⟩, .int .u32 0, .int .i64 0, .int .u32 0, .int .i64 0, .int .i64 0, .slice none 0 0]) 88 rfl Tryz.underlying100 info107 rfl (by decide) (by decide) (Sl.mk zA2 zn2 zc2).enc ps2 (EP.mk ⟨⟨(i : Int) + 1, name, 1, (n : Int), sumS data, d0⟩, hh, ds⟩ ⟨(some ⟨b2, 0, none⟩), (many n), c2⟩) [.int .i64 ((i : Int) + 1), .string name, .int .u32 1, .int .i64 (n : Int), .int .u32 (sumS data), .int .i64 d0, .int .i64 hh, .slice (some ⟨b2, 0, none⟩) (many n) c2] (fun k => tagged w8.drew o8 (t + 12 + i) k = t + 12 + i) (fun _ => False) rfl rfl rfl (fun _ hk => hk.elim) (fun q hq => tagged_new (show w8.drew.heap.size ≤ q from hq)) (Ow.alloc (w := w8.drew) HZ2.out (Below.refl _ _)) (Below.refl 0 _) (Nat.zero_le _) (by omega) ?_
 intro v3 wa ho hb hg3 hat
 obtain ⟨s3, rfl, ho', hk'⟩ := Ow.pushed (w := w8.drew) HZ2.out (Below.refl _ _) ho hg3
 clear ho hb hg3 hat
 refine hK.out _ _ ?_
 clear hK K
 refine norm_ (a' := ?_) ?_ ?_
 rotate_left
 ·
  show Act.put _ (some 136) _ = _
  simp only [put_s, List.set, i64_w, i32_w]
  rfl
 refine pu_ (i := 8) (N := some 137) (v := ?_) (a' := ?_) rfl rfl (by kernel_rfl) (fun _ _ _ h => h) (by rfl) ?_ ?_ ?_
 rotate_left
 · (intro w'; go_simp; with_reducible rfl)
 rotate_left
 · (simp only [put_s, List.set, i64_w, i32_w]; rfl)
 refine pu_ (i := 9) (N := some 138) (v := ?_) (a' := ?_) rfl rfl (by kernel_rfl) (fun _ _ _ h => h) (by rfl) ?_ ?_ ?_
 rotate_left
 · (intro w'; go_simp; with_reducible rfl)
 rotate_left
 · (simp only [put_s, List.set, i64_w, i32_w]; rfl)
 refine la_ (i := 10) (N := none) rfl rfl (by kernel_rfl) (by decide) (fun K hK => ?_)
 have hbz := Blk.keep (w := w8.drew) HB2.out hk' (by rw [HG2.out]; omega)
 have c3 := Blk.cell (i := 4) hbz.1 rfl
 have z3 := Blk.frozen (i := 4) hbz.1
 refine skip_ (w1 := wa.setCell ⟨ga i, 4, none⟩ s3.enc) (by rfl) rfl (by simp only [Sl.enc]; go_simp) ?_
 refine hK.out _ _ ?_
 clear hK K
 refine done_ (by kernel_rfl) ?_
 have HEE := Lib.hid (entry_endD (S := (SV.setB S lb)) (x := (EP.mk ⟨⟨(i : Int) + 1, name, 1, (n : Int), sumS data, d0⟩, hh, ds⟩ ⟨(some ⟨b2, 0, none⟩), (many n), c2⟩)) HMC.out ht i hi HG2.out HB2.out HES.out HR8.out ho' hk')
 clear ho' hk' hbz c3 z3 hHeld hS2
 have HDN := Lib.hid (done_nil _ _ t g gs ga _ HEE.out.1 ht hdd)
 go_wp2_with (go_at_call 58; refine HDN.out.mono ?_; rintro e wb ⟨rfl, ob, d1, d2⟩)
 go_ret
 rw [HX.out]
 exact ⟨rfl, hokb, hnb, ob, d1, (((HK37.out.mono (fun _ h => h.elim)).trans HKC.out).trans HEE.out.2).trans d2⟩
end Go.Proofs.YtmofiicjaldmiaaGreatDoor.SwD
end
section
namespace Go.Proofs.YtmofiicjaldmiaaGreatDoor.SwE
open Go.RowKit Go.Shelf YtmofiicjaldmiaaGreatDoorW.PrintWords YtmofiicjaldmiaaGreatDoorW.PrintLast SvA SvB SvC SvD SvE SvF SvG SvH SvI SvJ SvK SvL SvM SvN SvO SvP SvQ SvR SvS SvT SvU SvV SvW SvX SvY SvZ SwA
set_option linter.unusedVariables false
set_option linter.unusedSimpArgs false
set_option maxRecDepth 100000 in
set_option maxHeartbeats 4000000 in
theorem put_pos_0 (w : World) (own : Nat → Nat) (t g gs : Nat) (ga : Nat → Nat) (S : SV) (H : SvMem w own t g gs ga S) (ht : t ≠ 0) (i : Nat) (hi : i < 8) (hS : BOk S.b) (hA : AOk S i) (name : ByteArray) (hs : name.size < 2 ^ 62) (hn16 : name.size ≤ 16) (hd : S.dead = false) (hok : nameOk name = true) (A : Option Addr) (c td : Nat) (data : List Int) (hda : Rd u8K w own td ⟨A, 0, c⟩ data) (htd : ¬ k3 t td) (hu : u8s data) (hn : 0 ≤ 131072) (k : Nat) (hf : findI (fun e => e.hd.name == name) (S.ar i).ents = k) (e0 : EN) (he : (S.ar i).ents[k]? = some e0) (hv : e0.hd.ver < 4294967295) (hroom : freeH (S.ar i) ≠ [] ∧ (freeD (S.ar i) (many 0)).length = many 0) (hlim : S.b.lim = false) (hpe : S.b.pend = []) :
  Calls Tryz.prog 23 #[pt g, .int .i64 ((i : Int) + 1), .string name, .slice A 0 c] w (ActP w own t g gs ga S.b.n (putS S i (some (k, e0)) name data)) := by
 have hcn := named_yes w own t g gs ga S H i hi name hs hd hok (by have := hA.el; omega)
 rw [hf] at hcn
 have HH := Lib.hid H
 obtain ⟨z, ps, hg, hb, hz, hes⟩ := H.ar i hi
 have hpl : ps.length = (S.ar i).ents.length := by rw [← hes.1, List.length_map]
 have hkl : k < ps.length := by rw [hpl]; exact (List.getElem?_eq_some_iff.1 he).1
 obtain ⟨x0, hx⟩ : ∃ x, ps[k]? = some x := ⟨_, List.getElem?_eq_getElem hkl⟩
 have hxe : x0.en = e0 := by
  have h1 : (ps.map (·.en))[k]? = some x0.en := by rw [List.getElem?_map, hx]; rfl
  rw [hes.1, he] at h1
  injection h1 with h1
  exact h1.symm
 subst hxe
 obtain ⟨gb, hgb⟩ := ow_head hz (by rw [← (ow_len hz).1]; omega)
 obtain ⟨zA, zn, zc⟩ := z
 injection hgb with hgb _ _
 subst hgb
 have hkn0 : ps.length = zn := (ow_len hz).1
 have hkn : (k : Int) < (zn : Int) := by omega
 have hk0 : (0 : Int) ≤ (k : Int) := by omega
 have hk40 : k < 2 ^ 30 := by have := hA.el; omega
 have HE := Lib.hid (fun (W : World) (h : Below w.heap.size w W) => stS (hb.below h) (hz.keep (Kp.below (ts := fun _ => False) h 0) (fun q => q)) hx)
 have HEO := Lib.hid (hA.eo x0.en (List.mem_of_getElem? he))
 have HGE := Lib.hid he
 clear hb hz hes hx hg hpl hkl hf he hkn0
 obtain ⟨⟨⟨x1, x2, x3, x4, x5, x6⟩, x7, xs⟩, ⟨x8, x9, x10⟩⟩ := x0
 dsimp only at *
 have hx3 : 0 ≤ x3 := HEO.out.1.v0.1
 have hve : (x3 == 4294967295) = false := beq_eq_false_iff_ne.2 (by omega)
 have hrk : decide ((k : Int) ≥ 0) = true := by simp
 have HC := Lib.hid hcn
 have HFH := Lib.hid (fun (W : World) (h : Below w.heap.size w W) => heads_ok W _ _ _ _ _ ((HH.out.below h).ar i hi) (by have := hA.el; omega) (by have := hA.s16; have := hA.hs; omega))
 have HFD := Lib.hid (fun (W : World) (h : Below w.heap.size w W) => data_ok W _ _ _ _ _ ((HH.out.below h).ar i hi) (by have := hA.el; omega) (by have := hA.s16; have := hA.hs; omega) (by have := hA.s16; omega) (fun e he => by have := (hA.eo e he).2.2.2; omega) (many 0) (by unfold many; omega))
 have HAR := Lib.hid (fun (W : World) (h : Below w.heap.size w W) => ar_c1 ((HH.out.below h).ar i hi))
 have HDA := Lib.hid hda
 have HDL0 := Lib.hid (show data.length = 0 from hda.1.1)
 have hnc : 0 ≤ c := hda.2.1
 have HHA := Lib.hid hA
 clear hcn H hok hda hA
 go_enter Tryz.func23, Tryz.ntmps23
 go_upto_region 7 with (first | (go_at_call 50; refine HC.out.mono ?_; rintro e w1 ⟨rfl, hb1⟩; have q3 := (HAR.out w1 hb1).2.2.2) | (go_at_call 51; refine Calls.mono (HFH.out w1 hb1) ?_; rintro e w2 ⟨⟨A1, n1, c1⟩, rfl, hN1⟩; unfold Sl.enc; dsimp only))
 have hb2 : Below w.heap.size w w2 := hb1.trans (hN1.below.mono hb1.size)
 have HN1 := Lib.hid hN1
 clear hN1 q3
 have hS0 : w2.cell? ⟨ga i, 2, none⟩ = some (.int .i64 ((S.ar i).sec : Int)) ∧ w2.cell? ⟨ga i, 3, none⟩ = some (.int .i64 ((S.ar i).heads : Int)) := ⟨(HAR.out w2 hb2).2.2.1, (HAR.out w2 hb2).2.2.2⟩
 refine start_ (n := 14) (S := fun w' => w'.cell? ⟨ga i, 2, none⟩ = some (.int .i64 ((S.ar i).sec : Int)) ∧ w'.cell? ⟨ga i, 3, none⟩ = some (.int .i64 ((S.ar i).heads : Int))) (ds := []) #[false, false, false, false, false, false, false, false, false, false, false, false, false, false] (by kernel_rfl) rfl rfl hS0 (fun hHeld => ?_)
 refine pu_ (i := 0) (N := some 38) (v := ?_) (a' := ?_) rfl rfl (by kernel_rfl) (fun _ _ _ h => h) (by rfl) ?_ ?_ ?_
 rotate_left
 · (intro w'; go_simp; with_reducible rfl)
 rotate_left
 · (simp only [put_s, List.set, i64_w, i32_w]; rfl)
 refine pu_ (i := 1) (N := some 39) (v := ?_) (a' := ?_) rfl rfl (by kernel_rfl) (fun _ _ _ h => h) (by rfl) ?_ ?_ ?_
 rotate_left
 · (intro w'; go_simp; with_reducible rfl)
 rotate_left
 · (simp only [put_s, List.set, i64_w, i32_w]; rfl)
 refine pu_ (i := 2) (N := some 40) (v := ?_) (a' := ?_) rfl rfl (by kernel_rfl) (fun _ _ _ h => h) (by rfl) ?_ ?_ ?_
 rotate_left
 · (intro w'; go_simp; with_reducible rfl)
 rotate_left
 · (simp only [put_s, List.set, i64_w, i32_w]; rfl)
 refine pu_ (i := 3) (N := some 41) (v := ?_) (a' := ?_) rfl rfl (by kernel_rfl) (fun _ _ _ h => h) (by rfl) ?_ ?_ ?_
 rotate_left
 · (intro w'; go_simp; with_reducible rfl)
 rotate_left
 · (simp only [put_s, List.set, i64_w, i32_w]; rfl)
 refine tk_ (i := 4) (N := some 42) (v := ?_) (a' := ?_) rfl rfl (by kernel_rfl) (fun _ _ _ h => h) (by rfl) ?_ hHeld ?_ ?_
 rotate_left
 ·
  intro w' s0
  obtain ⟨q1, q2⟩ := s0
  go_simp
  with_reducible rfl
 rotate_left
 · (simp only [put_s, List.set, i64_w, i32_w]; rfl)
 refine pu_ (i := 5) (N := some 43) (v := ?_) (a' := ?_) rfl rfl (by kernel_rfl) (fun _ _ _ h => h) (by rfl) ?_ ?_ ?_
 rotate_left
 · (intro w'; go_simp; with_reducible rfl)
 rotate_left
 · (simp only [put_s, List.set, i64_w, i32_w]; rfl)
 refine pu_ (i := 6) (N := some 44) (v := ?_) (a' := ?_) rfl rfl (by kernel_rfl) (fun _ _ _ h => h) (by rfl) ?_ ?_ ?_
 rotate_left
 · (intro w'; go_simp; with_reducible rfl)
 rotate_left
 · (simp only [put_s, List.set, i64_w, i32_w]; rfl)
 refine pu_ (i := 7) (N := some 45) (v := ?_) (a' := ?_) rfl rfl (by kernel_rfl) (fun _ _ _ h => h) (by rfl) ?_ ?_ ?_
 rotate_left
 · (intro w'; go_simp; with_reducible rfl)
 rotate_left
 · (simp only [put_s, List.set, i64_w, i32_w]; rfl)
 refine tk_ (i := 8) (N := some 46) (v := ?_) (a' := ?_) rfl rfl (by kernel_rfl) (fun _ _ _ h => h) (by rfl) ?_ hHeld ?_ ?_
 rotate_left
 ·
  intro w' s0
  obtain ⟨q1, q2⟩ := s0
  go_simp
  with_reducible rfl
 rotate_left
 · (simp only [put_s, List.set, i64_w, i32_w]; rfl)
 refine pu_ (i := 9) (N := some 47) (v := ?_) (a' := ?_) rfl rfl (by kernel_rfl) (fun _ _ _ h => h) (by rfl) ?_ ?_ ?_
 rotate_left
 · (intro w'; go_simp; with_reducible rfl)
 rotate_left
 · (simp only [put_s, List.set, i64_w, i32_w]; rfl)
 refine pu_ (i := 10) (N := some 48) (v := ?_) (a' := ?_) rfl rfl (by kernel_rfl) (fun _ _ _ h => h) (by rfl) ?_ ?_ ?_
 rotate_left
 · (intro w'; go_simp; with_reducible rfl)
 rotate_left
 · (simp only [put_s, List.set, i64_w, i32_w]; rfl)
 refine on_ (i := 11) (N := some 49) rfl rfl (by kernel_rfl) (by decide) (fun K hK => ?_)
 refine goes_ Tryz.func53 (by kernel_rfl) rfl #[.int .i64 (0 : Int)] (by first | rfl | (simp [Act.eval]; done)) rfl rfl (by first | rfl | (simp [Act.eval]; done)) ?_
 refine Calls.mono (many_ok _ 0 (by omega)) ?_
 rintro e w' ⟨rfl, rfl⟩
 refine ⟨_, rfl, ?_⟩
 refine hK.out _ _ hHeld (fun hHeld => ?_)
 clear hK K
 refine norm_ (a' := ?_) ?_ ?_
 rotate_left
 ·
  show Act.put _ (some 49) _ = _
  simp only [put_s, List.set, i64_w, i32_w]
  rfl
 refine on_ (i := 12) (N := some 50) rfl rfl (by kernel_rfl) (by decide) (fun K hK => ?_)
 refine goes_ Tryz.func51 (by kernel_rfl) rfl #[pt (ga i), .int .i64 ((S.ar i).heads : Int), .int .i64 ((S.ar i).sec : Int), .int .i64 (many 0 : Int), .func (.func 54) #[] #[]] (by first | rfl | (simp [Act.eval]; done)) rfl rfl (by first | rfl | (simp [Act.eval]; done)) ?_
 refine Calls.mono (HFD.out w2.drew hb2.drew) ?_
 rintro e w3 ⟨⟨A2, n2, c2⟩, rfl, hN2⟩
 unfold Sl.enc; dsimp only
 refine ⟨_, rfl, ?_⟩
 refine hK.out _ _ ⟨cellOf hN2.below hHeld.1, cellOf hN2.below hHeld.2⟩ (fun hHeld => ?_)
 clear hK K
 refine norm_ (a' := ?_) ?_ ?_
 rotate_left
 ·
  show Act.put _ (some 50) _ = _
  simp only [put_s, List.set, i64_w, i32_w]
  rfl
 refine pu_ (i := 13) (N := some 13) (v := ?_) (a' := ?_) rfl rfl (by kernel_rfl) (fun _ _ _ h => h) (by rfl) ?_ ?_ ?_
 rotate_left
 · (intro w'; go_simp; with_reducible rfl)
 rotate_left
 · (simp only [put_s, List.set, i64_w, i32_w]; rfl)
 refine done_ (by kernel_rfl) ?_
 have hb3 : Below w.heap.size w w3 := hb2.drew.trans (hN2.below.mono hb2.size)
 have HN2 := Lib.hid hN2
 clear hHeld hN2 hS0
 obtain ⟨q0, q1, q2, q3, q4, q5, q6, q7⟩ := HE.out w3 hb3; dsimp only at q0 q1 q2 q3 q4 q5 q6 q7
 go_upto_region 9 with (fail)
 obtain ⟨hh, hfh⟩ : ∃ hh, freeH (S.ar i) = [hh] := by
  have := freeH_len (S.ar i)
  rcases hfl : freeH (S.ar i) with _ | ⟨x, _ | ⟨y, l⟩⟩
  · exact absurd hfl hroom.1
  · exact ⟨x, rfl⟩
  · rw [hfl] at this; simp at this
 rw [hfh] at HN1
 obtain rfl : n1 = 1 := HN1.out.len
 obtain ⟨b1, hA1, hb1l⟩ := HN1.out.hd Nat.one_pos
 dsimp only at hA1
 subst hA1
 have hhm : 0 ≤ hh ∧ hh < ((S.ar i).heads : Int) := by have := freeH_mem (show hh ∈ freeH (S.ar i) by rw [hfh]; exact List.mem_singleton.2 rfl); exact ⟨this.1, this.2.1⟩
 generalize hds : freeD (S.ar i) (many 0) = ds at *
 have hdm : ∀ x ∈ ds, ((S.ar i).heads : Int) ≤ x ∧ x < ((S.ar i).sec : Int) := fun x hx => by rw [← hds] at hx; have := freeD_mem hx; exact ⟨this.1, this.2.1⟩
 have hdsl : ds.length = many 0 := hroom.2
 have hn2 : n2 = many 0 := HN2.out.len.trans hdsl
 have hm0 : many 0 = 0 := rfl
 rw [hm0] at hn2
 subst hn2
 have HDS0 := Lib.hid (show ds = [] from List.length_eq_zero_iff.1 (hdsl.trans hm0))
 have ed : decide ((0 : Int) < ((many 0 : Nat) : Int)) = false := by rw [hm0]; decide
 have HDM := Lib.hid hdm
 have HHM := Lib.hid hhm
 have HDS := Lib.hid hds
 have HFH' := Lib.hid hfh
 have HDSL := Lib.hid hdsl
 have HRM := Lib.hid hroom
 have HDL := HDL0
 clear hdm hhm hds hfh hdsl hroom
 have HSUM := Lib.hid (sum_ok w3 A 0 c data (BytesAt.below (B := 0) (A := A) (n := 0) HDA.out.1 hb3) hu (by omega) hnc)
 go_upto_region 12 with (first | (go_at_call 53; refine (many_ok _ 0 (by omega)).mono ?_; rintro e w' ⟨rfl, rfl⟩) | (go_at_call 55; refine HSUM.out.mono ?_; rintro e w' ⟨rfl, rfl⟩))
 have HB0 := Lib.hid (hb3.alloc hb3.size (Obj.cells #[.int .i64 ((i : Int) + 1), .string name, .int .u32 1, .int .i64 (0 : Int), .int .u32 (sumS data), .int .i64 0] 105))
 have hB4 : Blk (w3.alloc (Obj.cells #[.int .i64 ((i : Int) + 1), .string name, .int .u32 1, .int .i64 (0 : Int), .int .u32 (sumS data), .int .i64 0] 105)) w3.heap.size #[.int .i64 ((i : Int) + 1), .string name, .int .u32 1, .int .i64 (0 : Int), .int .u32 (sumS data), .int .i64 0] 105 := blkNew rfl
 have hbA := ba (w := w3) (Obj.cells #[.int .i64 ((i : Int) + 1), .string name, .int .u32 1, .int .i64 (0 : Int), .int .u32 (sumS data), .int .i64 0] 105)
 have hz4 : (w3.alloc (Obj.cells #[.int .i64 ((i : Int) + 1), .string name, .int .u32 1, .int .i64 (0 : Int), .int .u32 (sumS data), .int .i64 0] 105)).heap.size = w3.heap.size + 1 := by simp
 generalize w3.alloc (Obj.cells #[.int .i64 ((i : Int) + 1), .string name, .int .u32 1, .int .i64 (0 : Int), .int .u32 (sumS data), .int .i64 0] 105) = W4 at *
 have hpw : w.heap.size ≤ w3.heap.size := hb3.size
 obtain ⟨q0, q1, q2, q3, q4, q5, q6, q7⟩ := HE.out W4 HB0.out
 dsimp only at q0 q1 q2 q3 q4 q5 q6 q7
 have c2 : W4.cell? ⟨w3.heap.size, 2, none⟩ = some (.int .u32 1) := Blk.cell (i := 2) hB4 rfl
 have z2 : W4.frozen? ⟨w3.heap.size, 2, none⟩ = false := Blk.frozen hB4
 have hx31 : x3 < 4294967295 := hv
 go_upto_region 14 with (fail)
 have hB5 := Blk.set (i := 2) hB4 (.int .u32 (x3 + 1))
 have hb5 : Below w3.heap.size w3 (W4.setCell ⟨w3.heap.size, 2, none⟩ (.int .u32 (x3 + 1))) := hbA.setCell (p := ⟨w3.heap.size, 2, none⟩) (Nat.le_refl _) _
 have hz5 : (W4.setCell ⟨w3.heap.size, 2, none⟩ (.int .u32 (x3 + 1))).heap.size = w3.heap.size + 1 := by rw [World.size_setCell]; exact hz4
 generalize W4.setCell ⟨w3.heap.size, 2, none⟩ (.int .u32 (x3 + 1)) = W5 at *
 clear c2 z2 q0 q1 q2 q3 q4 q5 q6 q7 hB4 hbA hz4
 go_upto_region 16 with (fail)
 have hB6 := hB5
 have hb6 := hb5
 have hz6 := hz5
 clear hB5 hb5 hz5
 have ch : W5.cell? ⟨b1, 0, none⟩ = some (.int .i64 hh) := cellOf hb6 (cellOf HN2.out.below (HN1.out.cell 0 hh rfl))
 try simp at hB6
 have hS1 : W5.cell? ⟨w3.heap.size, 0, none⟩ = some (.int .i64 ((i : Int) + 1)) ∧ W5.cell? ⟨w3.heap.size, 1, none⟩ = some (.string name) ∧ W5.cell? ⟨w3.heap.size, 2, none⟩ = some (.int .u32 (x3 + 1)) ∧ W5.cell? ⟨w3.heap.size, 3, none⟩ = some (.int .i64 (0 : Int)) ∧ W5.cell? ⟨w3.heap.size, 4, none⟩ = some (.int .u32 (sumS data)) ∧ W5.cell? ⟨w3.heap.size, 5, none⟩ = some (.int .i64 0) ∧ W5.cell? ⟨b1, 0, none⟩ = some (.int .i64 hh) :=
  ⟨Blk.cell (i := 0) hB6 rfl, Blk.cell (i := 1) hB6 rfl, Blk.cell (i := 2) hB6 rfl, Blk.cell (i := 3) hB6 rfl, Blk.cell (i := 4) hB6 rfl, Blk.cell (i := 5) hB6 rfl, ch⟩
 clear ch
 refine start_ (n := 8) (S := fun w' => w'.cell? ⟨w3.heap.size, 0, none⟩ = some (.int .i64 ((i : Int) + 1)) ∧ w'.cell? ⟨w3.heap.size, 1, none⟩ = some (.string name) ∧ w'.cell? ⟨w3.heap.size, 2, none⟩ = some (.int .u32 (x3 + 1)) ∧ w'.cell? ⟨w3.heap.size, 3, none⟩ = some (.int .i64 (0 : Int)) ∧ w'.cell? ⟨w3.heap.size, 4, none⟩ = some (.int .u32 (sumS data)) ∧ w'.cell? ⟨w3.heap.size, 5, none⟩ = some (.int .i64 0) ∧ w'.cell? ⟨b1, 0, none⟩ = some (.int .i64 hh)) (ds := []) #[false, false, false, false, false, false, false, false] (by kernel_rfl) rfl rfl hS1 (fun hHeld => ?_)
 refine tk_ (i := 0) (N := some 106) (v := ?_) (a' := ?_) rfl rfl (by kernel_rfl) (fun _ _ _ h => h) (by rfl) ?_ hHeld ?_ ?_
 rotate_left
 ·
  intro w' s0
  obtain ⟨q1, q2, q3, q4, q5, q6, q7⟩ := s0
  go_simp
  with_reducible rfl
 rotate_left
 · (simp only [put_s, List.set, i64_w, i32_w]; rfl)
 refine pu_ (i := 1) (N := some 107) (v := ?_) (a' := ?_) rfl rfl (by kernel_rfl) (fun _ _ _ h => h) (by rfl) ?_ ?_ ?_
 rotate_left
 · (intro w'; go_simp; with_reducible rfl)
 rotate_left
 · (simp only [put_s, List.set, i64_w, i32_w]; rfl)
 refine pu_ (i := 2) (N := some 108) (v := ?_) (a' := ?_) rfl rfl (by kernel_rfl) (fun _ _ _ h => h) (by rfl) ?_ ?_ ?_
 rotate_left
 · (intro w'; go_simp; with_reducible rfl)
 rotate_left
 · (simp only [put_s, List.set, i64_w, i32_w]; rfl)
 refine tk_ (i := 3) (N := some 109) (v := ?_) (a' := ?_) rfl rfl (by kernel_rfl) (fun _ _ _ h => h) (by rfl) ?_ hHeld ?_ ?_
 rotate_left
 ·
  intro w' s0
  obtain ⟨q1, q2, q3, q4, q5, q6, q7⟩ := s0
  go_simp
  with_reducible rfl
 rotate_left
 · (simp only [put_s, List.set, i64_w, i32_w]; rfl)
 refine pu_ (i := 4) (N := some 110) (v := ?_) (a' := ?_) rfl rfl (by kernel_rfl) (fun _ _ _ h => h) (by rfl) ?_ ?_ ?_
 rotate_left
 · (intro w'; go_simp; with_reducible rfl)
 rotate_left
 · (simp only [put_s, List.set, i64_w, i32_w]; rfl)
 refine pu_ (i := 5) (N := some 111) (v := ?_) (a' := ?_) rfl rfl (by kernel_rfl) (fun _ _ _ h => h) (by rfl) ?_ ?_ ?_
 rotate_left
 · (intro w'; go_simp; with_reducible rfl)
 rotate_left
 · (simp only [put_s, List.set, i64_w, i32_w]; rfl)
 refine on_ (i := 6) (N := some 16) rfl rfl (by kernel_rfl) (by decide) (fun K hK => ?_)
 refine value_ (v := pt W5.drew.heap.size) (w1 := W5.drew.alloc (.cells #[.int .i64 0, .string ⟨#[]⟩, .int .u32 0, .int .i64 0, .int .u32 0, .int .i64 0, .int .i64 0, .slice none 0 0] 107)) (by rfl) rfl (by go_simp) ?_
 refine hK.out _ _ ⟨cellOf (ba _) hHeld.1, cellOf (ba _) hHeld.2.1, cellOf (ba _) hHeld.2.2.1, cellOf (ba _) hHeld.2.2.2.1, cellOf (ba _) hHeld.2.2.2.2.1, cellOf (ba _) hHeld.2.2.2.2.2.1, cellOf (ba _) hHeld.2.2.2.2.2.2⟩ (fun hHeld => ?_)
 clear hK K
 refine norm_ (a' := ?_) ?_ ?_
 rotate_left
 ·
  show Act.put _ (some 16) _ = _
  simp only [put_s, List.set, i64_w, i32_w]
  rfl
 refine on_ (i := 7) (N := none) rfl rfl (by kernel_rfl) (by decide) (fun K hK => ?_)
 refine skip_ (w1 := W5.drew.alloc (.cells #[.int .i64 ((i : Int) + 1), .string name, .int .u32 (x3 + 1), .int .i64 (0 : Int), .int .u32 (sumS data), .int .i64 0, .int .i64 hh, .slice A2 0 c2] 107)) (by rfl) rfl (by go_simp) ?_
 refine hK.out _ _ ⟨cellOf (ba (w := W5.drew) _) hS1.1, cellOf (ba (w := W5.drew) _) hS1.2.1, cellOf (ba (w := W5.drew) _) hS1.2.2.1, cellOf (ba (w := W5.drew) _) hS1.2.2.2.1, cellOf (ba (w := W5.drew) _) hS1.2.2.2.2.1, cellOf (ba (w := W5.drew) _) hS1.2.2.2.2.2.1, cellOf (ba (w := W5.drew) _) hS1.2.2.2.2.2.2⟩ (fun hHeld => ?_)
 clear hK K
 refine done_ (by kernel_rfl) ?_
 have hb37 : Below w3.heap.size w3 (W5.drew.alloc (.cells #[.int .i64 ((i : Int) + 1), .string name, .int .u32 (x3 + 1), .int .i64 (0 : Int), .int .u32 (sumS data), .int .i64 0, .int .i64 hh, .slice A2 0 c2] 107)) := hb6.drew.alloc (by rw [World.size_drew]; omega) _
 have hK37 := (Kp.below (ts := fun _ => False) (own := own) hb3 0).trans (Kp.below (ts := fun _ => False) (own := tagged w own 0) hb37 0)
 have hB7 : Blk (W5.drew.alloc (.cells #[.int .i64 ((i : Int) + 1), .string name, .int .u32 (x3 + 1), .int .i64 (0 : Int), .int .u32 (sumS data), .int .i64 0, .int .i64 hh, .slice A2 0 c2] 107)) W5.drew.heap.size #[.int .i64 ((i : Int) + 1), .string name, .int .u32 (x3 + 1), .int .i64 (0 : Int), .int .u32 (sumS data), .int .i64 0, .int .i64 hh, .slice A2 0 c2] 107 := blkNew rfl
 have hR7 := (HN2.out.rd own (w0 := w) hb2.size).keep i64K_K (by decide) (Kp.below (ts := fun _ => False) (own := tagged w own 0) hb37 0) (fun q => q)
 have hO7 : tagged w3 (tagged w own 0) 0 W5.drew.heap.size = 0 := tagged_new (by rw [World.size_drew]; omega)
 have hD7 := HDA.out.keep u8K_K (by decide) hK37 (fun q => q)
 have hM7 := HH.out.keep hK37 (fun q => q) (fun _ _ _ q => q)
 clear hb37 hHeld hS1 hB6
 generalize (W5.drew.alloc (.cells #[.int .i64 ((i : Int) + 1), .string name, .int .u32 (x3 + 1), .int .i64 (0 : Int), .int .u32 (sumS data), .int .i64 0, .int .i64 hh, .slice A2 0 c2] 107)) = W7 at *
 generalize tagged w3 (tagged w own 0) 0 = o7 at *
 generalize W5.drew.heap.size = q7 at *
 have HNE : newE (S.ar i) ((i : Int) + 1) name (x3 + 1) data = ⟨⟨(i : Int) + 1, name, (x3 + 1), (0 : Int), sumS data, 0⟩, hh, ds⟩ := by
  unfold newE
  rw [HDL.out, HFH'.out, HDS.out]
  rw [HDS0.out]
  rfl
 have hs16 := HHA.out.s16
 have hhs := HHA.out.hs
 have hXok : HD.ok ⟨(i : Int) + 1, name, (x3 + 1), (0 : Int), sumS data, 0⟩ := ⟨⟨by show (0 : Int) ≤ (i : Int) + 1; omega, by show (i : Int) + 1 < 256; omega⟩, hn16, ⟨by show (0 : Int) ≤ (x3 + 1); omega, by show (x3 + 1) < (4294967296 : Int); omega⟩, ⟨by show (0 : Int) ≤ (0 : Int); omega, by show (0 : Int) < 4294967296; omega⟩, xor_u32_bd _ _, ⟨by show (0 : Int) ≤ 0; omega, by show 0 < (65536 : Int); omega⟩⟩
 have hL := lay_ok W7 o7 t g gs ga S hM7 ht i hi hS HHA.out.fs hs16 (EP.mk ⟨⟨(i : Int) + 1, name, (x3 + 1), (0 : Int), sumS data, 0⟩, hh, ds⟩ ⟨A2, 0, c2⟩) hR7 hXok (fun y hy => ⟨by have := (HDM.out y hy).1; omega, (HDM.out y hy).2⟩) ⟨HHM.out.1, by have := HHM.out.2; show hh < ((S.ar i).sec : Int); omega⟩ A 0 c td data hD7 htd hu (by omega) HDSL.out (by have := HDSL.out; rw [hpe]; show 0 + ds.length + 2 < _; rw [HDS0.out]; decide)
 rw [layS_lim _ _ _ _ hlim] at hL
 have hblim := layB_lim (S.ar i) ⟨⟨(i : Int) + 1, name, (x3 + 1), (0 : Int), sumS data, 0⟩, hh, ds⟩ data S.b hlim
 have hbp := layB_pend (S.ar i) ⟨⟨(i : Int) + 1, name, (x3 + 1), (0 : Int), sumS data, 0⟩, hh, ds⟩ data S.b
 have HPS : putS S i (some (k, ⟨⟨x1, x2, x3, x4, x5, x6⟩, x7, xs⟩)) name data = SV.setE (delS (SV.setB S (layB (S.ar i) ⟨⟨(i : Int) + 1, name, (x3 + 1), (0 : Int), sumS data, 0⟩, hh, ds⟩ data S.b)) i k ⟨⟨x1, x2, x3, x4, x5, x6⟩, x7, xs⟩) i (((delS (SV.setB S (layB (S.ar i) ⟨⟨(i : Int) + 1, name, (x3 + 1), (0 : Int), sumS data, 0⟩, hh, ds⟩ data S.b)) i k ⟨⟨x1, x2, x3, x4, x5, x6⟩, x7, xs⟩).ar i).ents ++ [⟨⟨(i : Int) + 1, name, (x3 + 1), (0 : Int), sumS data, 0⟩, hh, ds⟩]) := by
  unfold putS
  simp only
  rw [HNE]
 have HX := Lib.hid HPS
 have hDe : ((delS (SV.setB S (layB (S.ar i) ⟨⟨(i : Int) + 1, name, (x3 + 1), (0 : Int), sumS data, 0⟩, hh, ds⟩ data S.b)) i k ⟨⟨x1, x2, x3, x4, x5, x6⟩, x7, xs⟩).ar i).ents.length ≤ (S.ar i).ents.length := by
  show ((SV.setE (SV.setB (SV.setB S (layB (S.ar i) ⟨⟨(i : Int) + 1, name, (x3 + 1), (0 : Int), sumS data, 0⟩, hh, ds⟩ data S.b)) _) i ((S.ar i).ents.eraseIdx k)).ar i).ents.length ≤ _
  unfold SV.setE
  dsimp only
  rw [if_pos rfl]
  exact List.length_eraseIdx_le _ _
 have HST := Lib.hid (fun (W : World) (o : Nat → Nat) (h : SvMem W o t g gs ga (SV.setB S (layB (S.ar i) ⟨⟨(i : Int) + 1, name, (x3 + 1), (0 : Int), sumS data, 0⟩, hh, ds⟩ data S.b))) (hk : BOk (layB (S.ar i) ⟨⟨(i : Int) + 1, name, (x3 + 1), (0 : Int), sumS data, 0⟩, hh, ds⟩ data S.b)) (hnn : (layB (S.ar i) ⟨⟨(i : Int) + 1, name, (x3 + 1), (0 : Int), sumS data, 0⟩, hh, ds⟩ data S.b).n = S.b.n) => strike_ok W o t g gs ga (SV.setB S (layB (S.ar i) ⟨⟨(i : Int) + 1, name, (x3 + 1), (0 : Int), sumS data, 0⟩, hh, ds⟩ data S.b)) h ht i hi hk (by show (S.ar i).frm + (S.ar i).sec ≤ (layB (S.ar i) ⟨⟨(i : Int) + 1, name, (x3 + 1), (0 : Int), sumS data, 0⟩, hh, ds⟩ data S.b).n; rw [hnn]; exact HHA.out.fs) k ⟨⟨x1, x2, x3, x4, x5, x6⟩, x7, xs⟩ HGE.out HEO.out.1 HEO.out.2.1 (by show (layB (S.ar i) ⟨⟨(i : Int) + 1, name, (x3 + 1), (0 : Int), sumS data, 0⟩, hh, ds⟩ data S.b).pend.length < _; rw [hbp]; decide) HHA.out.el)
 rw [strikeS_ok (SV.setB S (layB (S.ar i) ⟨⟨(i : Int) + 1, name, (x3 + 1), (0 : Int), sumS data, 0⟩, hh, ds⟩ data S.b)) i k ⟨⟨x1, x2, x3, x4, x5, x6⟩, x7, xs⟩ (full_lim hblim)] at HST
 have hdd : (delS (SV.setB S (layB (S.ar i) ⟨⟨(i : Int) + 1, name, (x3 + 1), (0 : Int), sumS data, 0⟩, hh, ds⟩ data S.b)) i k ⟨⟨x1, x2, x3, x4, x5, x6⟩, x7, xs⟩).dead = false := hd
 have hDar : ((delS (SV.setB S (layB (S.ar i) ⟨⟨(i : Int) + 1, name, (x3 + 1), (0 : Int), sumS data, 0⟩, hh, ds⟩ data S.b)) i k ⟨⟨x1, x2, x3, x4, x5, x6⟩, x7, xs⟩).ar i).ten = (S.ar i).ten := by unfold delS SV.setE; dsimp only; rw [if_pos rfl]; rfl
 generalize hDD : (delS (SV.setB S (layB (S.ar i) ⟨⟨(i : Int) + 1, name, (x3 + 1), (0 : Int), sumS data, 0⟩, hh, ds⟩ data S.b)) i k ⟨⟨x1, x2, x3, x4, x5, x6⟩, x7, xs⟩) = D at *
 clear HPS hDD
 generalize hLB : (layB (S.ar i) ⟨⟨(i : Int) + 1, name, (x3 + 1), (0 : Int), sumS data, 0⟩, hh, ds⟩ data S.b) = lb at *
 clear hLB HNE hDar hpe hlim hblim hbp
 have HL := Lib.hid hL
 have HOK := Lib.hid hXok
 clear hL hXok
 have e0 := Blk.cell (i := 0) hB7 rfl
 have e1 := Blk.cell (i := 1) hB7 rfl
 have e2 := Blk.cell (i := 2) hB7 rfl
 have e3 := Blk.cell (i := 3) hB7 rfl
 have e4 := Blk.cell (i := 4) hB7 rfl
 have e5 := Blk.cell (i := 5) hB7 rfl
 have e6 := Blk.cell (i := 6) hB7 rfl
 have e7 := Blk.cell (i := 7) hB7 rfl
 go_upto_region 21 with (first | (go_at_call 56; refine Calls.mono HL.out ?_; rintro e w8 ⟨rfl, l1, l2, o8, l3, l4⟩; simp only [if_true]) | (go_at_call 57; refine Calls.mono (HST.out w8 o8 l3 l1 l2) ?_; rintro e w9 ⟨rfl, l5, l6, o9, l7, l8⟩; simp only [if_true]))
 have HMC := Lib.hid l7
 have hkc : Kp (k20 t) W7 o7 w9 o9 := (l4.mono (fun q h => ⟨by rcases h with h | h | h <;> omega, by rcases h with h | h | h <;> omega⟩)).trans l8
 have hokb : BOk D.b := l5
 have hnb : D.b.n = S.b.n := l6.trans l2
 clear l1 l2 l3 l4 l5 l6 l7 l8
 obtain ⟨⟨zA2, zn2, zc2⟩, ps2, hg2, hb2x, hz2, hes2⟩ := HMC.out.ar i hi
 have hpn : ps2.length < 2 ^ 30 := by
  have h1 : ps2.length = (D.ar i).ents.length := by rw [← hes2.1, List.length_map]
  have := HHA.out.el
  omega
 have hq8 := (hB7.keep hkc (by rw [hO7]; intro h; have := h.1; omega)).1
 have hr8 := hR7.keep i64K_K (by decide) hkc (by intro h; have := h.1; omega)
 have hS2 : w9.cell? ⟨ga i, 4, none⟩ = some (.slice zA2 zn2 zc2) ∧ w9.cell? ⟨q7, 0, none⟩ = some (.int .i64 ((i : Int) + 1)) ∧ w9.cell? ⟨q7, 1, none⟩ = some (.string name) ∧ w9.cell? ⟨q7, 2, none⟩ = some (.int .u32 (x3 + 1)) ∧ w9.cell? ⟨q7, 3, none⟩ = some (.int .i64 (0 : Int)) ∧ w9.cell? ⟨q7, 4, none⟩ = some (.int .u32 (sumS data)) ∧ w9.cell? ⟨q7, 5, none⟩ = some (.int .i64 0) ∧ w9.cell? ⟨q7, 6, none⟩ = some (.int .i64 hh) ∧ w9.cell? ⟨q7, 7, none⟩ = some (.slice A2 0 c2) :=
  ⟨Blk.cell (i := 4) hb2x rfl, Blk.cell (i := 0) hq8 rfl, Blk.cell (i := 1) hq8 rfl, Blk.cell (i := 2) hq8 rfl, Blk.cell (i := 3) hq8 rfl, Blk.cell (i := 4) hq8 rfl, Blk.cell (i := 5) hq8 rfl, Blk.cell (i := 6) hq8 rfl, Blk.cell (i := 7) hq8 rfl⟩
 have HZ2 := Lib.hid hz2
 have HES := Lib.hid hes2
 have HB2 := Lib.hid hb2x
 have HG2 := Lib.hid hg2
 have HR8 := Lib.hid hr8
 have HKC := Lib.hid hkc
 have HK37 := Lib.hid hK37
 clear e0 e1 e2 e3 e4 e5 e6 e7
 clear hz2 hes2 hb2x hg2 hr8 hkc hq8 hR7 hD7 hM7 hB7 hK37
 refine start_ (n := 11) (S := fun w' => w'.cell? ⟨ga i, 4, none⟩ = some (.slice zA2 zn2 zc2) ∧ w'.cell? ⟨q7, 0, none⟩ = some (.int .i64 ((i : Int) + 1)) ∧ w'.cell? ⟨q7, 1, none⟩ = some (.string name) ∧ w'.cell? ⟨q7, 2, none⟩ = some (.int .u32 (x3 + 1)) ∧ w'.cell? ⟨q7, 3, none⟩ = some (.int .i64 (0 : Int)) ∧ w'.cell? ⟨q7, 4, none⟩ = some (.int .u32 (sumS data)) ∧ w'.cell? ⟨q7, 5, none⟩ = some (.int .i64 0) ∧ w'.cell? ⟨q7, 6, none⟩ = some (.int .i64 hh) ∧ w'.cell? ⟨q7, 7, none⟩ = some (.slice A2 0 c2)) (ds := [7, 10]) #[false, false, false, false, false, false, false, false, false, false, false] (by kernel_rfl) rfl rfl hS2 (fun hHeld => ?_)
 refine pu_ (i := 0) (N := some 129) (v := ?_) (a' := ?_) rfl rfl (by kernel_rfl) (fun _ _ _ h => h) (by rfl) ?_ ?_ ?_
 rotate_left
 · (intro w'; go_simp; with_reducible rfl)
 rotate_left
 · (simp only [put_s, List.set, i64_w, i32_w]; rfl)
 refine pu_ (i := 1) (N := some 130) (v := ?_) (a' := ?_) rfl rfl (by kernel_rfl) (fun _ _ _ h => h) (by rfl) ?_ ?_ ?_
 rotate_left
 · (intro w'; go_simp; with_reducible rfl)
 rotate_left
 · (simp only [put_s, List.set, i64_w, i32_w]; rfl)
 refine pu_ (i := 2) (N := some 131) (v := ?_) (a' := ?_) rfl rfl (by kernel_rfl) (fun _ _ _ h => h) (by rfl) ?_ ?_ ?_
 rotate_left
 · (intro w'; go_simp; with_reducible rfl)
 rotate_left
 · (simp only [put_s, List.set, i64_w, i32_w]; rfl)
 refine pu_ (i := 3) (N := some 132) (v := ?_) (a' := ?_) rfl rfl (by kernel_rfl) (fun _ _ _ h => h) (by rfl) ?_ ?_ ?_
 rotate_left
 · (intro w'; go_simp; with_reducible rfl)
 rotate_left
 · (simp only [put_s, List.set, i64_w, i32_w]; rfl)
 refine tk_ (i := 4) (N := some 133) (v := ?_) (a' := ?_) rfl rfl (by kernel_rfl) (fun _ _ _ h => h) (by rfl) ?_ hHeld ?_ ?_
 rotate_left
 ·
  intro w' s0
  obtain ⟨q1, q2, q3, q4, q5, q6, q7x, q8, q9⟩ := s0
  go_simp
  with_reducible rfl
 rotate_left
 · (simp only [put_s, List.set, i64_w, i32_w]; rfl)
 refine tk_ (i := 5) (N := some 134) (v := ?_) (a' := ?_) rfl rfl (by kernel_rfl) (fun _ _ _ h => h) (by rfl) ?_ hHeld ?_ ?_
 rotate_left
 ·
  intro w' s0
  obtain ⟨q1, q2, q3, q4, q5, q6, q7x, q8, q9⟩ := s0
  go_simp
  with_reducible rfl
 rotate_left
 · (simp only [put_s, List.set, i64_w, i32_w]; rfl)
 refine on_ (i := 6) (N := some 135) rfl rfl (by kernel_rfl) (by decide) (fun K hK => ?_)
 refine value_ (v := .slice (some ⟨w9.drew.heap.size, 0, none⟩) 1 1) (w1 := w9.drew.alloc (.cells #[.int .i64 ((i : Int) + 1), .string name, .int .u32 (x3 + 1), .int .i64 (0 : Int), .int .u32 (sumS data), .int .i64 0, .int .i64 hh, .slice A2 0 c2] 107)) (by rfl) rfl (by go_simp) ?_
 refine hK.out _ _ ⟨cellOf (ba _) hHeld.1, cellOf (ba _) hHeld.2.1, cellOf (ba _) hHeld.2.2.1, cellOf (ba _) hHeld.2.2.2.1, cellOf (ba _) hHeld.2.2.2.2.1, cellOf (ba _) hHeld.2.2.2.2.2.1, cellOf (ba _) hHeld.2.2.2.2.2.2.1, cellOf (ba _) hHeld.2.2.2.2.2.2.2.1, cellOf (ba _) hHeld.2.2.2.2.2.2.2.2⟩ (fun hHeld => ?_)
 clear hK K
 refine norm_ (a' := ?_) ?_ ?_
 rotate_left
 ·
  show Act.put _ (some 135) _ = _
  simp only [put_s, List.set, i64_w, i32_w]
  rfl
 refine la_ (i := 7) (N := some 136) rfl rfl (by kernel_rfl) (by decide) (fun K hK => ?_)
 refine Kd.R_append_step enK (w0 := w9.drew) 0 (by rfl) (.tmp 133) (.tmp 135) 100 107 (.agg #[.int .i64 0, .string ⟨#[]⟩, .int .u32 0, .int .i64 0, .int .u32 0, .int .i64 0, .int .i64 0, .slice none 0 0]) 88 rfl Tryz.underlying100 info107 rfl (by decide) (by decide) (Sl.mk zA2 zn2 zc2).enc ps2 (EP.mk ⟨⟨(i : Int) + 1, name, (x3 + 1), (0 : Int), sumS data, 0⟩, hh, ds⟩ ⟨A2, 0, c2⟩) [.int .i64 ((i : Int) + 1), .string name, .int .u32 (x3 + 1), .int .i64 (0 : Int), .int .u32 (sumS data), .int .i64 0, .int .i64 hh, .slice A2 0 c2] (fun k => tagged w9.drew o9 (t + 12 + i) k = t + 12 + i) (fun _ => False) rfl rfl rfl (fun _ hk => hk.elim) (fun q hq => tagged_new (show w9.drew.heap.size ≤ q from hq)) (Ow.alloc (w := w9.drew) HZ2.out (Below.refl _ _)) (Below.refl 0 _) (Nat.zero_le _) (by omega) ?_
 intro v3 wa ho hb hg3 hat
 obtain ⟨s3, rfl, ho', hk'⟩ := Ow.pushed (w := w9.drew) HZ2.out (Below.refl _ _) ho hg3
 clear ho hb hg3 hat
 refine hK.out _ _ ?_
 clear hK K
 refine norm_ (a' := ?_) ?_ ?_
 rotate_left
 ·
  show Act.put _ (some 136) _ = _
  simp only [put_s, List.set, i64_w, i32_w]
  rfl
 refine pu_ (i := 8) (N := some 137) (v := ?_) (a' := ?_) rfl rfl (by kernel_rfl) (fun _ _ _ h => h) (by rfl) ?_ ?_ ?_
 rotate_left
 · (intro w'; go_simp; with_reducible rfl)
 rotate_left
 · (simp only [put_s, List.set, i64_w, i32_w]; rfl)
 refine pu_ (i := 9) (N := some 138) (v := ?_) (a' := ?_) rfl rfl (by kernel_rfl) (fun _ _ _ h => h) (by rfl) ?_ ?_ ?_
 rotate_left
 · (intro w'; go_simp; with_reducible rfl)
 rotate_left
 · (simp only [put_s, List.set, i64_w, i32_w]; rfl)
 refine la_ (i := 10) (N := none) rfl rfl (by kernel_rfl) (by decide) (fun K hK => ?_)
 have hbz := Blk.keep (w := w9.drew) HB2.out hk' (by rw [HG2.out]; omega)
 have c3 := Blk.cell (i := 4) hbz.1 rfl
 have z3 := Blk.frozen (i := 4) hbz.1
 refine skip_ (w1 := wa.setCell ⟨ga i, 4, none⟩ s3.enc) (by rfl) rfl (by simp only [Sl.enc]; go_simp) ?_
 refine hK.out _ _ ?_
 clear hK K
 refine done_ (by kernel_rfl) ?_
 have HEE := Lib.hid (entry_endD (S := D) (x := (EP.mk ⟨⟨(i : Int) + 1, name, (x3 + 1), (0 : Int), sumS data, 0⟩, hh, ds⟩ ⟨A2, 0, c2⟩)) HMC.out ht i hi HG2.out HB2.out HES.out HR8.out ho' hk')
 clear ho' hk' hbz c3 z3 hHeld hS2
 have HDN := Lib.hid (done_nil _ _ t g gs ga _ HEE.out.1 ht hdd)
 go_wp2_with (go_at_call 58; refine HDN.out.mono ?_; rintro e wb ⟨rfl, ob, d1, d2⟩)
 go_ret
 rw [HX.out]
 exact ⟨rfl, hokb, hnb, ob, d1, (((HK37.out.mono (fun _ h => h.elim)).trans HKC.out).trans HEE.out.2).trans d2⟩
end Go.Proofs.YtmofiicjaldmiaaGreatDoor.SwE
end
section
namespace Go.Proofs.YtmofiicjaldmiaaGreatDoor.SwF
open Go.RowKit Go.Shelf YtmofiicjaldmiaaGreatDoorW.PrintWords YtmofiicjaldmiaaGreatDoorW.PrintLast SvA SvB SvC SvD SvE SvF SvG SvH SvI SvJ SvK SvL SvM SvN SvO SvP SvQ SvR SvS SvT SvU SvV SvW SvX SvY SvZ SwA
set_option linter.unusedVariables false
set_option linter.unusedSimpArgs false
set_option maxRecDepth 100000 in
set_option maxHeartbeats 4000000 in
theorem put_pos_1 (w : World) (own : Nat → Nat) (t g gs : Nat) (ga : Nat → Nat) (S : SV) (H : SvMem w own t g gs ga S) (ht : t ≠ 0) (i : Nat) (hi : i < 8) (hS : BOk S.b) (hA : AOk S i) (name : ByteArray) (hs : name.size < 2 ^ 62) (hn16 : name.size ≤ 16) (hd : S.dead = false) (hok : nameOk name = true) (A : Option Addr) (n c td : Nat) (data : List Int) (hda : Rd u8K w own td ⟨A, n, c⟩ data) (htd : ¬ k3 t td) (hu : u8s data) (hn : n ≤ 131072) (k : Nat) (hf : findI (fun e => e.hd.name == name) (S.ar i).ents = k) (e0 : EN) (he : (S.ar i).ents[k]? = some e0) (hv : e0.hd.ver < 4294967295) (hroom : freeH (S.ar i) ≠ [] ∧ (freeD (S.ar i) (many n)).length = many n) (hlim : S.b.lim = false) (hpe : S.b.pend = []) (hn0 : 0 < n) :
  Calls Tryz.prog 23 #[pt g, .int .i64 ((i : Int) + 1), .string name, .slice A n c] w (ActP w own t g gs ga S.b.n (putS S i (some (k, e0)) name data)) := by
 have hcn := named_yes w own t g gs ga S H i hi name hs hd hok (by have := hA.el; omega)
 rw [hf] at hcn
 have HH := Lib.hid H
 obtain ⟨z, ps, hg, hb, hz, hes⟩ := H.ar i hi
 have hpl : ps.length = (S.ar i).ents.length := by rw [← hes.1, List.length_map]
 have hkl : k < ps.length := by rw [hpl]; exact (List.getElem?_eq_some_iff.1 he).1
 obtain ⟨x0, hx⟩ : ∃ x, ps[k]? = some x := ⟨_, List.getElem?_eq_getElem hkl⟩
 have hxe : x0.en = e0 := by
  have h1 : (ps.map (·.en))[k]? = some x0.en := by rw [List.getElem?_map, hx]; rfl
  rw [hes.1, he] at h1
  injection h1 with h1
  exact h1.symm
 subst hxe
 obtain ⟨gb, hgb⟩ := ow_head hz (by rw [← (ow_len hz).1]; omega)
 obtain ⟨zA, zn, zc⟩ := z
 injection hgb with hgb _ _
 subst hgb
 have hkn0 : ps.length = zn := (ow_len hz).1
 have hkn : (k : Int) < (zn : Int) := by omega
 have hk0 : (0 : Int) ≤ (k : Int) := by omega
 have hk40 : k < 2 ^ 30 := by have := hA.el; omega
 have HE := Lib.hid (fun (W : World) (h : Below w.heap.size w W) => stS (hb.below h) (hz.keep (Kp.below (ts := fun _ => False) h 0) (fun q => q)) hx)
 have HEO := Lib.hid (hA.eo x0.en (List.mem_of_getElem? he))
 have HGE := Lib.hid he
 clear hb hz hes hx hg hpl hkl hf he hkn0
 obtain ⟨⟨⟨x1, x2, x3, x4, x5, x6⟩, x7, xs⟩, ⟨x8, x9, x10⟩⟩ := x0
 dsimp only at *
 have hx3 : 0 ≤ x3 := HEO.out.1.v0.1
 have hve : (x3 == 4294967295) = false := beq_eq_false_iff_ne.2 (by omega)
 have hrk : decide ((k : Int) ≥ 0) = true := by simp
 have HC := Lib.hid hcn
 have HFH := Lib.hid (fun (W : World) (h : Below w.heap.size w W) => heads_ok W _ _ _ _ _ ((HH.out.below h).ar i hi) (by have := hA.el; omega) (by have := hA.s16; have := hA.hs; omega))
 have HFD := Lib.hid (fun (W : World) (h : Below w.heap.size w W) => data_ok W _ _ _ _ _ ((HH.out.below h).ar i hi) (by have := hA.el; omega) (by have := hA.s16; have := hA.hs; omega) (by have := hA.s16; omega) (fun e he => by have := (hA.eo e he).2.2.2; omega) (many n) (by unfold many; omega))
 have HAR := Lib.hid (fun (W : World) (h : Below w.heap.size w W) => ar_c1 ((HH.out.below h).ar i hi))
 have HDA := Lib.hid hda
 have hdl : data.length = n := hda.1.1
 have hnc : n ≤ c := hda.2.1
 have HHA := Lib.hid hA
 clear hcn H hok hda hA
 go_enter Tryz.func23, Tryz.ntmps23
 go_upto_region 7 with (first | (go_at_call 50; refine HC.out.mono ?_; rintro e w1 ⟨rfl, hb1⟩; have q3 := (HAR.out w1 hb1).2.2.2) | (go_at_call 51; refine Calls.mono (HFH.out w1 hb1) ?_; rintro e w2 ⟨⟨A1, n1, c1⟩, rfl, hN1⟩; unfold Sl.enc; dsimp only))
 have hb2 : Below w.heap.size w w2 := hb1.trans (hN1.below.mono hb1.size)
 have HN1 := Lib.hid hN1
 clear hN1 q3
 have hS0 : w2.cell? ⟨ga i, 2, none⟩ = some (.int .i64 ((S.ar i).sec : Int)) ∧ w2.cell? ⟨ga i, 3, none⟩ = some (.int .i64 ((S.ar i).heads : Int)) := ⟨(HAR.out w2 hb2).2.2.1, (HAR.out w2 hb2).2.2.2⟩
 refine start_ (n := 14) (S := fun w' => w'.cell? ⟨ga i, 2, none⟩ = some (.int .i64 ((S.ar i).sec : Int)) ∧ w'.cell? ⟨ga i, 3, none⟩ = some (.int .i64 ((S.ar i).heads : Int))) (ds := []) #[false, false, false, false, false, false, false, false, false, false, false, false, false, false] (by kernel_rfl) rfl rfl hS0 (fun hHeld => ?_)
 refine pu_ (i := 0) (N := some 38) (v := ?_) (a' := ?_) rfl rfl (by kernel_rfl) (fun _ _ _ h => h) (by rfl) ?_ ?_ ?_
 rotate_left
 · (intro w'; go_simp; with_reducible rfl)
 rotate_left
 · (simp only [put_s, List.set, i64_w, i32_w]; rfl)
 refine pu_ (i := 1) (N := some 39) (v := ?_) (a' := ?_) rfl rfl (by kernel_rfl) (fun _ _ _ h => h) (by rfl) ?_ ?_ ?_
 rotate_left
 · (intro w'; go_simp; with_reducible rfl)
 rotate_left
 · (simp only [put_s, List.set, i64_w, i32_w]; rfl)
 refine pu_ (i := 2) (N := some 40) (v := ?_) (a' := ?_) rfl rfl (by kernel_rfl) (fun _ _ _ h => h) (by rfl) ?_ ?_ ?_
 rotate_left
 · (intro w'; go_simp; with_reducible rfl)
 rotate_left
 · (simp only [put_s, List.set, i64_w, i32_w]; rfl)
 refine pu_ (i := 3) (N := some 41) (v := ?_) (a' := ?_) rfl rfl (by kernel_rfl) (fun _ _ _ h => h) (by rfl) ?_ ?_ ?_
 rotate_left
 · (intro w'; go_simp; with_reducible rfl)
 rotate_left
 · (simp only [put_s, List.set, i64_w, i32_w]; rfl)
 refine tk_ (i := 4) (N := some 42) (v := ?_) (a' := ?_) rfl rfl (by kernel_rfl) (fun _ _ _ h => h) (by rfl) ?_ hHeld ?_ ?_
 rotate_left
 ·
  intro w' s0
  obtain ⟨q1, q2⟩ := s0
  go_simp
  with_reducible rfl
 rotate_left
 · (simp only [put_s, List.set, i64_w, i32_w]; rfl)
 refine pu_ (i := 5) (N := some 43) (v := ?_) (a' := ?_) rfl rfl (by kernel_rfl) (fun _ _ _ h => h) (by rfl) ?_ ?_ ?_
 rotate_left
 · (intro w'; go_simp; with_reducible rfl)
 rotate_left
 · (simp only [put_s, List.set, i64_w, i32_w]; rfl)
 refine pu_ (i := 6) (N := some 44) (v := ?_) (a' := ?_) rfl rfl (by kernel_rfl) (fun _ _ _ h => h) (by rfl) ?_ ?_ ?_
 rotate_left
 · (intro w'; go_simp; with_reducible rfl)
 rotate_left
 · (simp only [put_s, List.set, i64_w, i32_w]; rfl)
 refine pu_ (i := 7) (N := some 45) (v := ?_) (a' := ?_) rfl rfl (by kernel_rfl) (fun _ _ _ h => h) (by rfl) ?_ ?_ ?_
 rotate_left
 · (intro w'; go_simp; with_reducible rfl)
 rotate_left
 · (simp only [put_s, List.set, i64_w, i32_w]; rfl)
 refine tk_ (i := 8) (N := some 46) (v := ?_) (a' := ?_) rfl rfl (by kernel_rfl) (fun _ _ _ h => h) (by rfl) ?_ hHeld ?_ ?_
 rotate_left
 ·
  intro w' s0
  obtain ⟨q1, q2⟩ := s0
  go_simp
  with_reducible rfl
 rotate_left
 · (simp only [put_s, List.set, i64_w, i32_w]; rfl)
 refine pu_ (i := 9) (N := some 47) (v := ?_) (a' := ?_) rfl rfl (by kernel_rfl) (fun _ _ _ h => h) (by rfl) ?_ ?_ ?_
 rotate_left
 · (intro w'; go_simp; with_reducible rfl)
 rotate_left
 · (simp only [put_s, List.set, i64_w, i32_w]; rfl)
 refine pu_ (i := 10) (N := some 48) (v := ?_) (a' := ?_) rfl rfl (by kernel_rfl) (fun _ _ _ h => h) (by rfl) ?_ ?_ ?_
 rotate_left
 · (intro w'; go_simp; with_reducible rfl)
 rotate_left
 · (simp only [put_s, List.set, i64_w, i32_w]; rfl)
 refine on_ (i := 11) (N := some 49) rfl rfl (by kernel_rfl) (by decide) (fun K hK => ?_)
 refine goes_ Tryz.func53 (by kernel_rfl) rfl #[.int .i64 (n : Int)] (by first | rfl | (simp [Act.eval]; done)) rfl rfl (by first | rfl | (simp [Act.eval]; done)) ?_
 refine Calls.mono (many_ok _ n (by omega)) ?_
 rintro e w' ⟨rfl, rfl⟩
 refine ⟨_, rfl, ?_⟩
 refine hK.out _ _ hHeld (fun hHeld => ?_)
 clear hK K
 refine norm_ (a' := ?_) ?_ ?_
 rotate_left
 ·
  show Act.put _ (some 49) _ = _
  simp only [put_s, List.set, i64_w, i32_w]
  rfl
 refine on_ (i := 12) (N := some 50) rfl rfl (by kernel_rfl) (by decide) (fun K hK => ?_)
 refine goes_ Tryz.func51 (by kernel_rfl) rfl #[pt (ga i), .int .i64 ((S.ar i).heads : Int), .int .i64 ((S.ar i).sec : Int), .int .i64 (many n : Int), .func (.func 54) #[] #[]] (by first | rfl | (simp [Act.eval]; done)) rfl rfl (by first | rfl | (simp [Act.eval]; done)) ?_
 refine Calls.mono (HFD.out w2.drew hb2.drew) ?_
 rintro e w3 ⟨⟨A2, n2, c2⟩, rfl, hN2⟩
 unfold Sl.enc; dsimp only
 refine ⟨_, rfl, ?_⟩
 refine hK.out _ _ ⟨cellOf hN2.below hHeld.1, cellOf hN2.below hHeld.2⟩ (fun hHeld => ?_)
 clear hK K
 refine norm_ (a' := ?_) ?_ ?_
 rotate_left
 ·
  show Act.put _ (some 50) _ = _
  simp only [put_s, List.set, i64_w, i32_w]
  rfl
 refine pu_ (i := 13) (N := some 13) (v := ?_) (a' := ?_) rfl rfl (by kernel_rfl) (fun _ _ _ h => h) (by rfl) ?_ ?_ ?_
 rotate_left
 · (intro w'; go_simp; with_reducible rfl)
 rotate_left
 · (simp only [put_s, List.set, i64_w, i32_w]; rfl)
 refine done_ (by kernel_rfl) ?_
 have hb3 : Below w.heap.size w w3 := hb2.drew.trans (hN2.below.mono hb2.size)
 have HN2 := Lib.hid hN2
 clear hHeld hN2 hS0
 obtain ⟨q0, q1, q2, q3, q4, q5, q6, q7⟩ := HE.out w3 hb3; dsimp only at q0 q1 q2 q3 q4 q5 q6 q7
 go_upto_region 9 with (fail)
 obtain ⟨hh, hfh⟩ : ∃ hh, freeH (S.ar i) = [hh] := by
  have := freeH_len (S.ar i)
  rcases hfl : freeH (S.ar i) with _ | ⟨x, _ | ⟨y, l⟩⟩
  · exact absurd hfl hroom.1
  · exact ⟨x, rfl⟩
  · rw [hfl] at this; simp at this
 rw [hfh] at HN1
 obtain rfl : n1 = 1 := HN1.out.len
 obtain ⟨b1, hA1, hb1l⟩ := HN1.out.hd Nat.one_pos
 dsimp only at hA1
 subst hA1
 have hhm : 0 ≤ hh ∧ hh < ((S.ar i).heads : Int) := by have := freeH_mem (show hh ∈ freeH (S.ar i) by rw [hfh]; exact List.mem_singleton.2 rfl); exact ⟨this.1, this.2.1⟩
 generalize hds : freeD (S.ar i) (many n) = ds at *
 have hdm : ∀ x ∈ ds, ((S.ar i).heads : Int) ≤ x ∧ x < ((S.ar i).sec : Int) := fun x hx => by rw [← hds] at hx; have := freeD_mem hx; exact ⟨this.1, this.2.1⟩
 have hdsl : ds.length = many n := hroom.2
 have hn2 : n2 = many n := HN2.out.len.trans hdsl
 subst hn2
 have hm0 : 0 < many n := by unfold many; omega
 have hm1 : (0 : Int) < (many n : Int) := by omega
 have hm2 : decide ((many n : Int) > 0) = true := decide_eq_true hm1
 have ed : decide ((many n : Int) < (many n : Int)) = false := by simp
 have hm4 : many n < 2 ^ 30 := by unfold many; omega
 obtain ⟨b2, hA2, hb2l⟩ := HN2.out.hd hm0
 dsimp only at hA2
 subst hA2
 obtain ⟨d0, hd0⟩ : ∃ d0, ds[0]? = some d0 := ⟨_, List.getElem?_eq_getElem (by omega)⟩
 have HDM := Lib.hid hdm
 have HHM := Lib.hid hhm
 have HDS := Lib.hid hds
 have HFH' := Lib.hid hfh
 have HDSL := Lib.hid hdsl
 have HRM := Lib.hid hroom
 have HDL := Lib.hid hdl
 clear hdm hhm hds hfh hdsl hroom hdl
 have HD0 := Lib.hid hd0
 clear hd0
 have HSUM := Lib.hid (sum_ok w3 A n c data (BytesAt.below (B := 0) (A := A) (n := n) HDA.out.1 hb3) hu (by omega) hnc)
 go_upto_region 12 with (first | (go_at_call 53; refine (many_ok _ n (by omega)).mono ?_; rintro e w' ⟨rfl, rfl⟩) | (go_at_call 55; refine HSUM.out.mono ?_; rintro e w' ⟨rfl, rfl⟩))
 have HB0 := Lib.hid (hb3.alloc hb3.size (Obj.cells #[.int .i64 ((i : Int) + 1), .string name, .int .u32 1, .int .i64 (n : Int), .int .u32 (sumS data), .int .i64 0] 105))
 have hB4 : Blk (w3.alloc (Obj.cells #[.int .i64 ((i : Int) + 1), .string name, .int .u32 1, .int .i64 (n : Int), .int .u32 (sumS data), .int .i64 0] 105)) w3.heap.size #[.int .i64 ((i : Int) + 1), .string name, .int .u32 1, .int .i64 (n : Int), .int .u32 (sumS data), .int .i64 0] 105 := blkNew rfl
 have hbA := ba (w := w3) (Obj.cells #[.int .i64 ((i : Int) + 1), .string name, .int .u32 1, .int .i64 (n : Int), .int .u32 (sumS data), .int .i64 0] 105)
 have hz4 : (w3.alloc (Obj.cells #[.int .i64 ((i : Int) + 1), .string name, .int .u32 1, .int .i64 (n : Int), .int .u32 (sumS data), .int .i64 0] 105)).heap.size = w3.heap.size + 1 := by simp
 generalize w3.alloc (Obj.cells #[.int .i64 ((i : Int) + 1), .string name, .int .u32 1, .int .i64 (n : Int), .int .u32 (sumS data), .int .i64 0] 105) = W4 at *
 have hpw : w.heap.size ≤ w3.heap.size := hb3.size
 obtain ⟨q0, q1, q2, q3, q4, q5, q6, q7⟩ := HE.out W4 HB0.out
 dsimp only at q0 q1 q2 q3 q4 q5 q6 q7
 have c2 : W4.cell? ⟨w3.heap.size, 2, none⟩ = some (.int .u32 1) := Blk.cell (i := 2) hB4 rfl
 have z2 : W4.frozen? ⟨w3.heap.size, 2, none⟩ = false := Blk.frozen hB4
 have hx31 : x3 < 4294967295 := hv
 go_upto_region 14 with (fail)
 have hB5 := Blk.set (i := 2) hB4 (.int .u32 (x3 + 1))
 have hb5 : Below w3.heap.size w3 (W4.setCell ⟨w3.heap.size, 2, none⟩ (.int .u32 (x3 + 1))) := hbA.setCell (p := ⟨w3.heap.size, 2, none⟩) (Nat.le_refl _) _
 have hz5 : (W4.setCell ⟨w3.heap.size, 2, none⟩ (.int .u32 (x3 + 1))).heap.size = w3.heap.size + 1 := by rw [World.size_setCell]; exact hz4
 generalize W4.setCell ⟨w3.heap.size, 2, none⟩ (.int .u32 (x3 + 1)) = W5 at *
 clear c2 z2 q0 q1 q2 q3 q4 q5 q6 q7 hB4 hbA hz4
 have c5 : W5.cell? ⟨w3.heap.size, 5, none⟩ = some (.int .i64 0) := Blk.cell (i := 5) hB5 rfl
 have z5 : W5.frozen? ⟨w3.heap.size, 5, none⟩ = false := Blk.frozen hB5
 have cd0 : W5.cell? ⟨b2, 0, none⟩ = some (.int .i64 d0) := cellOf hb5 (HN2.out.cell 0 d0 HD0.out)
 go_upto_region 16 with (fail)
 have hB6 := Blk.set (i := 5) hB5 (.int .i64 d0)
 have hb6 : Below w3.heap.size w3 (W5.setCell ⟨w3.heap.size, 5, none⟩ (.int .i64 d0)) := hb5.setCell (p := ⟨w3.heap.size, 5, none⟩) (Nat.le_refl _) _
 have hz6 : (W5.setCell ⟨w3.heap.size, 5, none⟩ (.int .i64 d0)).heap.size = w3.heap.size + 1 := by rw [World.size_setCell]; exact hz5
 generalize W5.setCell ⟨w3.heap.size, 5, none⟩ (.int .i64 d0) = W6 at *
 clear c5 z5 cd0 hB5 hb5 hz5
 have ch : W6.cell? ⟨b1, 0, none⟩ = some (.int .i64 hh) := cellOf hb6 (cellOf HN2.out.below (HN1.out.cell 0 hh rfl))
 simp at hB6
 have hS1 : W6.cell? ⟨w3.heap.size, 0, none⟩ = some (.int .i64 ((i : Int) + 1)) ∧ W6.cell? ⟨w3.heap.size, 1, none⟩ = some (.string name) ∧ W6.cell? ⟨w3.heap.size, 2, none⟩ = some (.int .u32 (x3 + 1)) ∧ W6.cell? ⟨w3.heap.size, 3, none⟩ = some (.int .i64 (n : Int)) ∧ W6.cell? ⟨w3.heap.size, 4, none⟩ = some (.int .u32 (sumS data)) ∧ W6.cell? ⟨w3.heap.size, 5, none⟩ = some (.int .i64 d0) ∧ W6.cell? ⟨b1, 0, none⟩ = some (.int .i64 hh) :=
  ⟨Blk.cell (i := 0) hB6 rfl, Blk.cell (i := 1) hB6 rfl, Blk.cell (i := 2) hB6 rfl, Blk.cell (i := 3) hB6 rfl, Blk.cell (i := 4) hB6 rfl, Blk.cell (i := 5) hB6 rfl, ch⟩
 clear ch
 refine start_ (n := 8) (S := fun w' => w'.cell? ⟨w3.heap.size, 0, none⟩ = some (.int .i64 ((i : Int) + 1)) ∧ w'.cell? ⟨w3.heap.size, 1, none⟩ = some (.string name) ∧ w'.cell? ⟨w3.heap.size, 2, none⟩ = some (.int .u32 (x3 + 1)) ∧ w'.cell? ⟨w3.heap.size, 3, none⟩ = some (.int .i64 (n : Int)) ∧ w'.cell? ⟨w3.heap.size, 4, none⟩ = some (.int .u32 (sumS data)) ∧ w'.cell? ⟨w3.heap.size, 5, none⟩ = some (.int .i64 d0) ∧ w'.cell? ⟨b1, 0, none⟩ = some (.int .i64 hh)) (ds := []) #[false, false, false, false, false, false, false, false] (by kernel_rfl) rfl rfl hS1 (fun hHeld => ?_)
 refine tk_ (i := 0) (N := some 106) (v := ?_) (a' := ?_) rfl rfl (by kernel_rfl) (fun _ _ _ h => h) (by rfl) ?_ hHeld ?_ ?_
 rotate_left
 ·
  intro w' s0
  obtain ⟨q1, q2, q3, q4, q5, q6, q7⟩ := s0
  go_simp
  with_reducible rfl
 rotate_left
 · (simp only [put_s, List.set, i64_w, i32_w]; rfl)
 refine pu_ (i := 1) (N := some 107) (v := ?_) (a' := ?_) rfl rfl (by kernel_rfl) (fun _ _ _ h => h) (by rfl) ?_ ?_ ?_
 rotate_left
 · (intro w'; go_simp; with_reducible rfl)
 rotate_left
 · (simp only [put_s, List.set, i64_w, i32_w]; rfl)
 refine pu_ (i := 2) (N := some 108) (v := ?_) (a' := ?_) rfl rfl (by kernel_rfl) (fun _ _ _ h => h) (by rfl) ?_ ?_ ?_
 rotate_left
 · (intro w'; go_simp; with_reducible rfl)
 rotate_left
 · (simp only [put_s, List.set, i64_w, i32_w]; rfl)
 refine tk_ (i := 3) (N := some 109) (v := ?_) (a' := ?_) rfl rfl (by kernel_rfl) (fun _ _ _ h => h) (by rfl) ?_ hHeld ?_ ?_
 rotate_left
 ·
  intro w' s0
  obtain ⟨q1, q2, q3, q4, q5, q6, q7⟩ := s0
  go_simp
  with_reducible rfl
 rotate_left
 · (simp only [put_s, List.set, i64_w, i32_w]; rfl)
 refine pu_ (i := 4) (N := some 110) (v := ?_) (a' := ?_) rfl rfl (by kernel_rfl) (fun _ _ _ h => h) (by rfl) ?_ ?_ ?_
 rotate_left
 · (intro w'; go_simp; with_reducible rfl)
 rotate_left
 · (simp only [put_s, List.set, i64_w, i32_w]; rfl)
 refine pu_ (i := 5) (N := some 111) (v := ?_) (a' := ?_) rfl rfl (by kernel_rfl) (fun _ _ _ h => h) (by rfl) ?_ ?_ ?_
 rotate_left
 · (intro w'; go_simp; with_reducible rfl)
 rotate_left
 · (simp only [put_s, List.set, i64_w, i32_w]; rfl)
 refine on_ (i := 6) (N := some 16) rfl rfl (by kernel_rfl) (by decide) (fun K hK => ?_)
 refine value_ (v := pt W6.drew.heap.size) (w1 := W6.drew.alloc (.cells #[.int .i64 0, .string ⟨#[]⟩, .int .u32 0, .int .i64 0, .int .u32 0, .int .i64 0, .int .i64 0, .slice none 0 0] 107)) (by rfl) rfl (by go_simp) ?_
 refine hK.out _ _ ⟨cellOf (ba _) hHeld.1, cellOf (ba _) hHeld.2.1, cellOf (ba _) hHeld.2.2.1, cellOf (ba _) hHeld.2.2.2.1, cellOf (ba _) hHeld.2.2.2.2.1, cellOf (ba _) hHeld.2.2.2.2.2.1, cellOf (ba _) hHeld.2.2.2.2.2.2⟩ (fun hHeld => ?_)
 clear hK K
 refine norm_ (a' := ?_) ?_ ?_
 rotate_left
 ·
  show Act.put _ (some 16) _ = _
  simp only [put_s, List.set, i64_w, i32_w]
  rfl
 refine on_ (i := 7) (N := none) rfl rfl (by kernel_rfl) (by decide) (fun K hK => ?_)
 refine skip_ (w1 := W6.drew.alloc (.cells #[.int .i64 ((i : Int) + 1), .string name, .int .u32 (x3 + 1), .int .i64 (n : Int), .int .u32 (sumS data), .int .i64 d0, .int .i64 hh, .slice (some ⟨b2, 0, none⟩) (many n) c2] 107)) (by rfl) rfl (by go_simp) ?_
 refine hK.out _ _ ⟨cellOf (ba (w := W6.drew) _) hS1.1, cellOf (ba (w := W6.drew) _) hS1.2.1, cellOf (ba (w := W6.drew) _) hS1.2.2.1, cellOf (ba (w := W6.drew) _) hS1.2.2.2.1, cellOf (ba (w := W6.drew) _) hS1.2.2.2.2.1, cellOf (ba (w := W6.drew) _) hS1.2.2.2.2.2.1, cellOf (ba (w := W6.drew) _) hS1.2.2.2.2.2.2⟩ (fun hHeld => ?_)
 clear hK K
 refine done_ (by kernel_rfl) ?_
 have hb37 : Below w3.heap.size w3 (W6.drew.alloc (.cells #[.int .i64 ((i : Int) + 1), .string name, .int .u32 (x3 + 1), .int .i64 (n : Int), .int .u32 (sumS data), .int .i64 d0, .int .i64 hh, .slice (some ⟨b2, 0, none⟩) (many n) c2] 107)) := hb6.drew.alloc (by rw [World.size_drew]; omega) _
 have hK37 := (Kp.below (ts := fun _ => False) (own := own) hb3 0).trans (Kp.below (ts := fun _ => False) (own := tagged w own 0) hb37 0)
 have hB7 : Blk (W6.drew.alloc (.cells #[.int .i64 ((i : Int) + 1), .string name, .int .u32 (x3 + 1), .int .i64 (n : Int), .int .u32 (sumS data), .int .i64 d0, .int .i64 hh, .slice (some ⟨b2, 0, none⟩) (many n) c2] 107)) W6.drew.heap.size #[.int .i64 ((i : Int) + 1), .string name, .int .u32 (x3 + 1), .int .i64 (n : Int), .int .u32 (sumS data), .int .i64 d0, .int .i64 hh, .slice (some ⟨b2, 0, none⟩) (many n) c2] 107 := blkNew rfl
 have hR7 := (HN2.out.rd own (w0 := w) hb2.size).keep i64K_K (by decide) (Kp.below (ts := fun _ => False) (own := tagged w own 0) hb37 0) (fun q => q)
 have hO7 : tagged w3 (tagged w own 0) 0 W6.drew.heap.size = 0 := tagged_new (by rw [World.size_drew]; omega)
 have hD7 := HDA.out.keep u8K_K (by decide) hK37 (fun q => q)
 have hM7 := HH.out.keep hK37 (fun q => q) (fun _ _ _ q => q)
 clear hb37 hHeld hS1 hB6
 generalize (W6.drew.alloc (.cells #[.int .i64 ((i : Int) + 1), .string name, .int .u32 (x3 + 1), .int .i64 (n : Int), .int .u32 (sumS data), .int .i64 d0, .int .i64 hh, .slice (some ⟨b2, 0, none⟩) (many n) c2] 107)) = W7 at *
 generalize tagged w3 (tagged w own 0) 0 = o7 at *
 generalize W6.drew.heap.size = q7 at *
 have HNE : newE (S.ar i) ((i : Int) + 1) name (x3 + 1) data = ⟨⟨(i : Int) + 1, name, (x3 + 1), (n : Int), sumS data, d0⟩, hh, ds⟩ := by
  unfold newE
  rw [HDL.out, HFH'.out, HDS.out]
  have : ds.headD 0 = d0 := by
   have := HD0.out
   cases ds with
   | nil => simp at this
   | cons x l => simp at this; exact this
  rw [this]
  rfl
 have hd0m : d0 ∈ ds := List.mem_of_getElem? HD0.out
 have hd0b := HDM.out d0 hd0m
 have hs16 := HHA.out.s16
 have hhs := HHA.out.hs
 have hXok : HD.ok ⟨(i : Int) + 1, name, (x3 + 1), (n : Int), sumS data, d0⟩ := ⟨⟨by show (0 : Int) ≤ (i : Int) + 1; omega, by show (i : Int) + 1 < 256; omega⟩, hn16, ⟨by show (0 : Int) ≤ (x3 + 1); omega, by show (x3 + 1) < (4294967296 : Int); omega⟩, ⟨by show (0 : Int) ≤ (n : Int); omega, by show (n : Int) < 4294967296; omega⟩, xor_u32_bd _ _, ⟨by show (0 : Int) ≤ d0; omega, by show d0 < (65536 : Int); omega⟩⟩
 have hL := lay_ok W7 o7 t g gs ga S hM7 ht i hi hS HHA.out.fs hs16 (EP.mk ⟨⟨(i : Int) + 1, name, (x3 + 1), (n : Int), sumS data, d0⟩, hh, ds⟩ ⟨(some ⟨b2, 0, none⟩), (many n), c2⟩) hR7 hXok (fun y hy => ⟨by have := (HDM.out y hy).1; omega, (HDM.out y hy).2⟩) ⟨HHM.out.1, by have := HHM.out.2; show hh < ((S.ar i).sec : Int); omega⟩ A n c td data hD7 htd hu (by omega) HDSL.out (by have := HDSL.out; rw [hpe]; show 0 + ds.length + 2 < _; omega)
 rw [layS_lim _ _ _ _ hlim] at hL
 have hblim := layB_lim (S.ar i) ⟨⟨(i : Int) + 1, name, (x3 + 1), (n : Int), sumS data, d0⟩, hh, ds⟩ data S.b hlim
 have hbp := layB_pend (S.ar i) ⟨⟨(i : Int) + 1, name, (x3 + 1), (n : Int), sumS data, d0⟩, hh, ds⟩ data S.b
 have HPS : putS S i (some (k, ⟨⟨x1, x2, x3, x4, x5, x6⟩, x7, xs⟩)) name data = SV.setE (delS (SV.setB S (layB (S.ar i) ⟨⟨(i : Int) + 1, name, (x3 + 1), (n : Int), sumS data, d0⟩, hh, ds⟩ data S.b)) i k ⟨⟨x1, x2, x3, x4, x5, x6⟩, x7, xs⟩) i (((delS (SV.setB S (layB (S.ar i) ⟨⟨(i : Int) + 1, name, (x3 + 1), (n : Int), sumS data, d0⟩, hh, ds⟩ data S.b)) i k ⟨⟨x1, x2, x3, x4, x5, x6⟩, x7, xs⟩).ar i).ents ++ [⟨⟨(i : Int) + 1, name, (x3 + 1), (n : Int), sumS data, d0⟩, hh, ds⟩]) := by
  unfold putS
  simp only
  rw [HNE]
 have HX := Lib.hid HPS
 have hDe : ((delS (SV.setB S (layB (S.ar i) ⟨⟨(i : Int) + 1, name, (x3 + 1), (n : Int), sumS data, d0⟩, hh, ds⟩ data S.b)) i k ⟨⟨x1, x2, x3, x4, x5, x6⟩, x7, xs⟩).ar i).ents.length ≤ (S.ar i).ents.length := by
  show ((SV.setE (SV.setB (SV.setB S (layB (S.ar i) ⟨⟨(i : Int) + 1, name, (x3 + 1), (n : Int), sumS data, d0⟩, hh, ds⟩ data S.b)) _) i ((S.ar i).ents.eraseIdx k)).ar i).ents.length ≤ _
  unfold SV.setE
  dsimp only
  rw [if_pos rfl]
  exact List.length_eraseIdx_le _ _
 have HST := Lib.hid (fun (W : World) (o : Nat → Nat) (h : SvMem W o t g gs ga (SV.setB S (layB (S.ar i) ⟨⟨(i : Int) + 1, name, (x3 + 1), (n : Int), sumS data, d0⟩, hh, ds⟩ data S.b))) (hk : BOk (layB (S.ar i) ⟨⟨(i : Int) + 1, name, (x3 + 1), (n : Int), sumS data, d0⟩, hh, ds⟩ data S.b)) (hnn : (layB (S.ar i) ⟨⟨(i : Int) + 1, name, (x3 + 1), (n : Int), sumS data, d0⟩, hh, ds⟩ data S.b).n = S.b.n) => strike_ok W o t g gs ga (SV.setB S (layB (S.ar i) ⟨⟨(i : Int) + 1, name, (x3 + 1), (n : Int), sumS data, d0⟩, hh, ds⟩ data S.b)) h ht i hi hk (by show (S.ar i).frm + (S.ar i).sec ≤ (layB (S.ar i) ⟨⟨(i : Int) + 1, name, (x3 + 1), (n : Int), sumS data, d0⟩, hh, ds⟩ data S.b).n; rw [hnn]; exact HHA.out.fs) k ⟨⟨x1, x2, x3, x4, x5, x6⟩, x7, xs⟩ HGE.out HEO.out.1 HEO.out.2.1 (by show (layB (S.ar i) ⟨⟨(i : Int) + 1, name, (x3 + 1), (n : Int), sumS data, d0⟩, hh, ds⟩ data S.b).pend.length < _; rw [hbp]; decide) HHA.out.el)
 rw [strikeS_ok (SV.setB S (layB (S.ar i) ⟨⟨(i : Int) + 1, name, (x3 + 1), (n : Int), sumS data, d0⟩, hh, ds⟩ data S.b)) i k ⟨⟨x1, x2, x3, x4, x5, x6⟩, x7, xs⟩ (full_lim hblim)] at HST
 have hdd : (delS (SV.setB S (layB (S.ar i) ⟨⟨(i : Int) + 1, name, (x3 + 1), (n : Int), sumS data, d0⟩, hh, ds⟩ data S.b)) i k ⟨⟨x1, x2, x3, x4, x5, x6⟩, x7, xs⟩).dead = false := hd
 have hDar : ((delS (SV.setB S (layB (S.ar i) ⟨⟨(i : Int) + 1, name, (x3 + 1), (n : Int), sumS data, d0⟩, hh, ds⟩ data S.b)) i k ⟨⟨x1, x2, x3, x4, x5, x6⟩, x7, xs⟩).ar i).ten = (S.ar i).ten := by unfold delS SV.setE; dsimp only; rw [if_pos rfl]; rfl
 generalize hDD : (delS (SV.setB S (layB (S.ar i) ⟨⟨(i : Int) + 1, name, (x3 + 1), (n : Int), sumS data, d0⟩, hh, ds⟩ data S.b)) i k ⟨⟨x1, x2, x3, x4, x5, x6⟩, x7, xs⟩) = D at *
 clear HPS hDD
 generalize hLB : (layB (S.ar i) ⟨⟨(i : Int) + 1, name, (x3 + 1), (n : Int), sumS data, d0⟩, hh, ds⟩ data S.b) = lb at *
 clear hLB HNE hDar hpe hlim hblim hbp
 have HL := Lib.hid hL
 have HOK := Lib.hid hXok
 clear hL hXok
 have e0 := Blk.cell (i := 0) hB7 rfl
 have e1 := Blk.cell (i := 1) hB7 rfl
 have e2 := Blk.cell (i := 2) hB7 rfl
 have e3 := Blk.cell (i := 3) hB7 rfl
 have e4 := Blk.cell (i := 4) hB7 rfl
 have e5 := Blk.cell (i := 5) hB7 rfl
 have e6 := Blk.cell (i := 6) hB7 rfl
 have e7 := Blk.cell (i := 7) hB7 rfl
 go_upto_region 21 with (first | (go_at_call 56; refine Calls.mono HL.out ?_; rintro e w8 ⟨rfl, l1, l2, o8, l3, l4⟩; simp only [if_true]) | (go_at_call 57; refine Calls.mono (HST.out w8 o8 l3 l1 l2) ?_; rintro e w9 ⟨rfl, l5, l6, o9, l7, l8⟩; simp only [if_true]))
 have HMC := Lib.hid l7
 have hkc : Kp (k20 t) W7 o7 w9 o9 := (l4.mono (fun q h => ⟨by rcases h with h | h | h <;> omega, by rcases h with h | h | h <;> omega⟩)).trans l8
 have hokb : BOk D.b := l5
 have hnb : D.b.n = S.b.n := l6.trans l2
 clear l1 l2 l3 l4 l5 l6 l7 l8
 obtain ⟨⟨zA2, zn2, zc2⟩, ps2, hg2, hb2x, hz2, hes2⟩ := HMC.out.ar i hi
 have hpn : ps2.length < 2 ^ 30 := by
  have h1 : ps2.length = (D.ar i).ents.length := by rw [← hes2.1, List.length_map]
  have := HHA.out.el
  omega
 have hq8 := (hB7.keep hkc (by rw [hO7]; intro h; have := h.1; omega)).1
 have hr8 := hR7.keep i64K_K (by decide) hkc (by intro h; have := h.1; omega)
 have hS2 : w9.cell? ⟨ga i, 4, none⟩ = some (.slice zA2 zn2 zc2) ∧ w9.cell? ⟨q7, 0, none⟩ = some (.int .i64 ((i : Int) + 1)) ∧ w9.cell? ⟨q7, 1, none⟩ = some (.string name) ∧ w9.cell? ⟨q7, 2, none⟩ = some (.int .u32 (x3 + 1)) ∧ w9.cell? ⟨q7, 3, none⟩ = some (.int .i64 (n : Int)) ∧ w9.cell? ⟨q7, 4, none⟩ = some (.int .u32 (sumS data)) ∧ w9.cell? ⟨q7, 5, none⟩ = some (.int .i64 d0) ∧ w9.cell? ⟨q7, 6, none⟩ = some (.int .i64 hh) ∧ w9.cell? ⟨q7, 7, none⟩ = some (.slice (some ⟨b2, 0, none⟩) (many n) c2) :=
  ⟨Blk.cell (i := 4) hb2x rfl, Blk.cell (i := 0) hq8 rfl, Blk.cell (i := 1) hq8 rfl, Blk.cell (i := 2) hq8 rfl, Blk.cell (i := 3) hq8 rfl, Blk.cell (i := 4) hq8 rfl, Blk.cell (i := 5) hq8 rfl, Blk.cell (i := 6) hq8 rfl, Blk.cell (i := 7) hq8 rfl⟩
 have HZ2 := Lib.hid hz2
 have HES := Lib.hid hes2
 have HB2 := Lib.hid hb2x
 have HG2 := Lib.hid hg2
 have HR8 := Lib.hid hr8
 have HKC := Lib.hid hkc
 have HK37 := Lib.hid hK37
 clear e0 e1 e2 e3 e4 e5 e6 e7
 clear hz2 hes2 hb2x hg2 hr8 hkc hq8 hR7 hD7 hM7 hB7 hK37
 refine start_ (n := 11) (S := fun w' => w'.cell? ⟨ga i, 4, none⟩ = some (.slice zA2 zn2 zc2) ∧ w'.cell? ⟨q7, 0, none⟩ = some (.int .i64 ((i : Int) + 1)) ∧ w'.cell? ⟨q7, 1, none⟩ = some (.string name) ∧ w'.cell? ⟨q7, 2, none⟩ = some (.int .u32 (x3 + 1)) ∧ w'.cell? ⟨q7, 3, none⟩ = some (.int .i64 (n : Int)) ∧ w'.cell? ⟨q7, 4, none⟩ = some (.int .u32 (sumS data)) ∧ w'.cell? ⟨q7, 5, none⟩ = some (.int .i64 d0) ∧ w'.cell? ⟨q7, 6, none⟩ = some (.int .i64 hh) ∧ w'.cell? ⟨q7, 7, none⟩ = some (.slice (some ⟨b2, 0, none⟩) (many n) c2)) (ds := [7, 10]) #[false, false, false, false, false, false, false, false, false, false, false] (by kernel_rfl) rfl rfl hS2 (fun hHeld => ?_)
 refine pu_ (i := 0) (N := some 129) (v := ?_) (a' := ?_) rfl rfl (by kernel_rfl) (fun _ _ _ h => h) (by rfl) ?_ ?_ ?_
 rotate_left
 · (intro w'; go_simp; with_reducible rfl)
 rotate_left
 · (simp only [put_s, List.set, i64_w, i32_w]; rfl)
 refine pu_ (i := 1) (N := some 130) (v := ?_) (a' := ?_) rfl rfl (by kernel_rfl) (fun _ _ _ h => h) (by rfl) ?_ ?_ ?_
 rotate_left
 · (intro w'; go_simp; with_reducible rfl)
 rotate_left
 · (simp only [put_s, List.set, i64_w, i32_w]; rfl)
 refine pu_ (i := 2) (N := some 131) (v := ?_) (a' := ?_) rfl rfl (by kernel_rfl) (fun _ _ _ h => h) (by rfl) ?_ ?_ ?_
 rotate_left
 · (intro w'; go_simp; with_reducible rfl)
 rotate_left
 · (simp only [put_s, List.set, i64_w, i32_w]; rfl)
 refine pu_ (i := 3) (N := some 132) (v := ?_) (a' := ?_) rfl rfl (by kernel_rfl) (fun _ _ _ h => h) (by rfl) ?_ ?_ ?_
 rotate_left
 · (intro w'; go_simp; with_reducible rfl)
 rotate_left
 · (simp only [put_s, List.set, i64_w, i32_w]; rfl)
 refine tk_ (i := 4) (N := some 133) (v := ?_) (a' := ?_) rfl rfl (by kernel_rfl) (fun _ _ _ h => h) (by rfl) ?_ hHeld ?_ ?_
 rotate_left
 ·
  intro w' s0
  obtain ⟨q1, q2, q3, q4, q5, q6, q7x, q8, q9⟩ := s0
  go_simp
  with_reducible rfl
 rotate_left
 · (simp only [put_s, List.set, i64_w, i32_w]; rfl)
 refine tk_ (i := 5) (N := some 134) (v := ?_) (a' := ?_) rfl rfl (by kernel_rfl) (fun _ _ _ h => h) (by rfl) ?_ hHeld ?_ ?_
 rotate_left
 ·
  intro w' s0
  obtain ⟨q1, q2, q3, q4, q5, q6, q7x, q8, q9⟩ := s0
  go_simp
  with_reducible rfl
 rotate_left
 · (simp only [put_s, List.set, i64_w, i32_w]; rfl)
 refine on_ (i := 6) (N := some 135) rfl rfl (by kernel_rfl) (by decide) (fun K hK => ?_)
 refine value_ (v := .slice (some ⟨w9.drew.heap.size, 0, none⟩) 1 1) (w1 := w9.drew.alloc (.cells #[.int .i64 ((i : Int) + 1), .string name, .int .u32 (x3 + 1), .int .i64 (n : Int), .int .u32 (sumS data), .int .i64 d0, .int .i64 hh, .slice (some ⟨b2, 0, none⟩) (many n) c2] 107)) (by rfl) rfl (by go_simp) ?_
 refine hK.out _ _ ⟨cellOf (ba _) hHeld.1, cellOf (ba _) hHeld.2.1, cellOf (ba _) hHeld.2.2.1, cellOf (ba _) hHeld.2.2.2.1, cellOf (ba _) hHeld.2.2.2.2.1, cellOf (ba _) hHeld.2.2.2.2.2.1, cellOf (ba _) hHeld.2.2.2.2.2.2.1, cellOf (ba _) hHeld.2.2.2.2.2.2.2.1, cellOf (ba _) hHeld.2.2.2.2.2.2.2.2⟩ (fun hHeld => ?_)
 clear hK K
 refine norm_ (a' := ?_) ?_ ?_
 rotate_left
 ·
  show Act.put _ (some 135) _ = _
  simp only [put_s, List.set, i64_w, i32_w]
  rfl
 refine la_ (i := 7) (N := some 136) rfl rfl (by kernel_rfl) (by decide) (fun K hK => ?_)
 refine Kd.R_append_step enK (w0 := w9.drew) 0 (by rfl) (.tmp 133) (.tmp 135) 100 107 (.agg #[.int .i64 0, .string ⟨#[]⟩, .int .u32 0, .int .i64 0, .int .u32 0, .int .i64 0, .int .i64 0, .slice none 0 0]) 88 rfl Tryz.underlying100 info107 rfl (by decide) (by decide) (Sl.mk zA2 zn2 zc2).enc ps2 (EP.mk ⟨⟨(i : Int) + 1, name, (x3 + 1), (n : Int), sumS data, d0⟩, hh, ds⟩ ⟨(some ⟨b2, 0, none⟩), (many n), c2⟩) [.int .i64 ((i : Int) + 1), .string name, .int .u32 (x3 + 1), .int .i64 (n : Int), .int .u32 (sumS data), .int .i64 d0, .int .i64 hh, .slice (some ⟨b2, 0, none⟩) (many n) c2] (fun k => tagged w9.drew o9 (t + 12 + i) k = t + 12 + i) (fun _ => False) rfl rfl rfl (fun _ hk => hk.elim) (fun q hq => tagged_new (show w9.drew.heap.size ≤ q from hq)) (Ow.alloc (w := w9.drew) HZ2.out (Below.refl _ _)) (Below.refl 0 _) (Nat.zero_le _) (by omega) ?_
 intro v3 wa ho hb hg3 hat
 obtain ⟨s3, rfl, ho', hk'⟩ := Ow.pushed (w := w9.drew) HZ2.out (Below.refl _ _) ho hg3
 clear ho hb hg3 hat
 refine hK.out _ _ ?_
 clear hK K
 refine norm_ (a' := ?_) ?_ ?_
 rotate_left
 ·
  show Act.put _ (some 136) _ = _
  simp only [put_s, List.set, i64_w, i32_w]
  rfl
 refine pu_ (i := 8) (N := some 137) (v := ?_) (a' := ?_) rfl rfl (by kernel_rfl) (fun _ _ _ h => h) (by rfl) ?_ ?_ ?_
 rotate_left
 · (intro w'; go_simp; with_reducible rfl)
 rotate_left
 · (simp only [put_s, List.set, i64_w, i32_w]; rfl)
 refine pu_ (i := 9) (N := some 138) (v := ?_) (a' := ?_) rfl rfl (by kernel_rfl) (fun _ _ _ h => h) (by rfl) ?_ ?_ ?_
 rotate_left
 · (intro w'; go_simp; with_reducible rfl)
 rotate_left
 · (simp only [put_s, List.set, i64_w, i32_w]; rfl)
 refine la_ (i := 10) (N := none) rfl rfl (by kernel_rfl) (by decide) (fun K hK => ?_)
 have hbz := Blk.keep (w := w9.drew) HB2.out hk' (by rw [HG2.out]; omega)
 have c3 := Blk.cell (i := 4) hbz.1 rfl
 have z3 := Blk.frozen (i := 4) hbz.1
 refine skip_ (w1 := wa.setCell ⟨ga i, 4, none⟩ s3.enc) (by rfl) rfl (by simp only [Sl.enc]; go_simp) ?_
 refine hK.out _ _ ?_
 clear hK K
 refine done_ (by kernel_rfl) ?_
 have HEE := Lib.hid (entry_endD (S := D) (x := (EP.mk ⟨⟨(i : Int) + 1, name, (x3 + 1), (n : Int), sumS data, d0⟩, hh, ds⟩ ⟨(some ⟨b2, 0, none⟩), (many n), c2⟩)) HMC.out ht i hi HG2.out HB2.out HES.out HR8.out ho' hk')
 clear ho' hk' hbz c3 z3 hHeld hS2
 have HDN := Lib.hid (done_nil _ _ t g gs ga _ HEE.out.1 ht hdd)
 go_wp2_with (go_at_call 58; refine HDN.out.mono ?_; rintro e wb ⟨rfl, ob, d1, d2⟩)
 go_ret
 rw [HX.out]
 exact ⟨rfl, hokb, hnb, ob, d1, (((HK37.out.mono (fun _ h => h.elim)).trans HKC.out).trans HEE.out.2).trans d2⟩
end Go.Proofs.YtmofiicjaldmiaaGreatDoor.SwF
end
section
namespace Go.Proofs.YtmofiicjaldmiaaGreatDoor.SwG
open Go.RowKit Go.Shelf YtmofiicjaldmiaaGreatDoorW.PrintWords YtmofiicjaldmiaaGreatDoorW.PrintLast SvA SvB SvC SvD SvE SvF SvG SvH SvI SvJ SvK SvL SvM SvN SvO SvP SvQ SvR SvS SvT SvU SvV SvW SvX SvY SvZ SwA SwB SwC SwD SwE SwF
set_option linter.unusedVariables false
set_option linter.unusedSimpArgs false
theorem nameOk_size {name : ByteArray} (h : nameOk name = true) : name.size ≤ 16 := by
 unfold nameOk at h
 simp only [Bool.and_eq_true, decide_eq_true_eq] at h
 exact h.2
def oldS (a : AR) (name : ByteArray) : Option (Nat × EN) := let k := findI (fun e : EN => e.hd.name == name) a.ents
  if k < 0 then none else (a.ents[k.toNat]?).map (fun e => (k.toNat, e))
theorem oldS_none {a : AR} {name : ByteArray} (h : oldS a name = none) : findI (fun e : EN => e.hd.name == name) a.ents < 0 := by
 unfold oldS at h
 by_cases hk : findI (fun e : EN => e.hd.name == name) a.ents < 0
 · exact hk
 ·
  dsimp only at h
  rw [if_neg hk] at h
  have := (findI_bd (fun e : EN => e.hd.name == name) a.ents).2
  rw [List.getElem?_eq_getElem (by omega)] at h
  cases h
theorem oldS_some {a : AR} {name : ByteArray} {k : Nat} {e : EN} (h : oldS a name = some (k, e)) : findI (fun e : EN => e.hd.name == name) a.ents = k ∧ a.ents[k]? = some e := by
 unfold oldS at h
 by_cases hk : findI (fun e : EN => e.hd.name == name) a.ents < 0
 ·
  dsimp only at h
  rw [if_pos hk] at h
  cases h
 ·
  dsimp only at h
  rw [if_neg hk] at h
  obtain ⟨x, hx, hy⟩ := Option.map_eq_some_iff.1 h
  injection hy with h1 h2
  subst h1
  subst h2
  exact ⟨by omega, hx⟩
def roomS (a : AR) (n : Nat) : Bool := decide ((freeH a).length = 1) && decide ((freeD a (many n)).length = many n)
theorem put_room (w : World) (own : Nat → Nat) (t g gs : Nat) (ga : Nat → Nat) (S : SV) (H : SvMem w own t g gs ga S) (ht : t ≠ 0) (i : Nat) (hi : i < 8) (hS : BOk S.b) (hA : AOk S i) (name : ByteArray) (hok : nameOk name = true) (hd : S.dead = false) (A : Option Addr) (n c td : Nat) (data : List Int) (hda : Rd u8K w own td ⟨A, n, c⟩ data) (htd : ¬ k3 t td) (hu : u8s data) (hn : n ≤ 131072) (hr : roomS (S.ar i) n = true) (hv : ∀ e ∈ (S.ar i).ents, e.hd.ver < 4294967295) (hlim : S.b.lim = false) (hpe : S.b.pend = []) :
  Calls Tryz.prog 23 #[pt g, .int .i64 ((i : Int) + 1), .string name, .slice A n c] w (ActP w own t g gs ga S.b.n (putS S i (oldS (S.ar i) name) name data)) := by
 have hn16 := nameOk_size hok
 unfold roomS at hr
 obtain ⟨r1, r2⟩ := Bool.and_eq_true_iff.1 hr
 have hroom : freeH (S.ar i) ≠ [] ∧ (freeD (S.ar i) (many n)).length = many n := ⟨(fun h => by have := of_decide_eq_true r1; rw [h] at this; cases this), of_decide_eq_true r2⟩
 rcases ho : oldS (S.ar i) name with _ | ⟨k, e0⟩
 ·
  by_cases h0 : n = 0
  ·
   subst h0
   exact put_neg_0 w own t g gs ga S H ht i hi hS hA name (by omega) hn16 hd hok A c td data hda htd hu (by omega) (oldS_none ho) hroom hlim hpe
  · exact put_neg_1 w own t g gs ga S H ht i hi hS hA name (by omega) hn16 hd hok A n c td data hda htd hu hn (oldS_none ho) hroom hlim hpe (by omega)
 ·
  obtain ⟨h1, h2⟩ := oldS_some ho
  by_cases h0 : n = 0
  ·
   subst h0
   exact put_pos_0 w own t g gs ga S H ht i hi hS hA name (by omega) hn16 hd hok A c td data hda htd hu (by omega) k h1 e0 h2 (hv e0 (List.mem_of_getElem? h2)) hroom hlim hpe
  · exact put_pos_1 w own t g gs ga S H ht i hi hS hA name (by omega) hn16 hd hok A n c td data hda htd hu hn k h1 e0 h2 (hv e0 (List.mem_of_getElem? h2)) hroom hlim hpe (by omega)
theorem put_none (w : World) (own : Nat → Nat) (t g gs : Nat) (ga : Nat → Nat) (S : SV) (H : SvMem w own t g gs ga S) (ht : t ≠ 0) (i : Nat) (hi : i < 8) (hS : BOk S.b) (hA : AOk S i) (name : ByteArray) (hok : nameOk name = true) (hd : S.dead = false) (A : Option Addr) (n c td : Nat) (data : List Int) (hda : Rd u8K w own td ⟨A, n, c⟩ data) (htd : ¬ k3 t td) (hu : u8s data) (hn : n ≤ 131072) (hr : roomS (S.ar i) n = false) (hv : ∀ e ∈ (S.ar i).ents, e.hd.ver < 4294967295) :
  Calls Tryz.prog 23 #[pt g, .int .i64 ((i : Int) + 1), .string name, .slice A n c] w (fun e w' => e = .returned (.int .i64 112) ∧ Below w.heap.size w w') := by
 have hn16 := nameOk_size hok
 have hroom : freeH (S.ar i) = [] ∨ (freeD (S.ar i) (many n)).length < many n := by
  unfold roomS at hr
  have h1 := freeH_len (S.ar i)
  have h2 := freeD_len (S.ar i) (many n)
  by_cases h3 : (freeH (S.ar i)).length = 1
  ·
   refine .inr ?_
   rw [decide_eq_true h3, Bool.true_and] at hr
   have := of_decide_eq_false hr
   omega
  · exact .inl (List.length_eq_zero_iff.1 (by omega))
 rcases ho : oldS (S.ar i) name with _ | ⟨k, e0⟩
 · exact put_full_neg w own t g gs ga S H ht i hi hS hA name (by omega) hn16 hd hok A n c td data hda htd hu hn (oldS_none ho) hroom
 ·
  obtain ⟨h1, h2⟩ := oldS_some ho
  exact put_full_pos w own t g gs ga S H ht i hi hS hA name (by omega) hn16 hd hok A n c td data hda htd hu hn k h1 e0 h2 (hv e0 (List.mem_of_getElem? h2)) hroom
end Go.Proofs.YtmofiicjaldmiaaGreatDoor.SwG
end
section
namespace Go.Proofs.YtmofiicjaldmiaaGreatDoor.SwI
open Go.RowKit Go.Shelf YtmofiicjaldmiaaGreatDoorW.PrintWords YtmofiicjaldmiaaGreatDoorW.PrintLast SvA SvB SvC SvD SvE SvF SvG SvH SvI SvJ SvK SvL SvM SvN SvO SvP SvQ SvR SvS SvT SvU SvV SvW SvX SvY SvZ SwA SwB SwC SwD SwE SwF SwG
set_option linter.unusedVariables false
set_option linter.unusedSimpArgs false
set_option linter.unusedVariables false
set_option linter.unusedSimpArgs false
set_option maxRecDepth 100000 in
theorem scan_zero (w : World) (own : Nat → Nat) (t gs : Nat) (b : BS) (H : StA w own t gs b) (hf : Fits b) (g ga frm heads : Nat) (cg : w.cell? ⟨g, 0, none⟩ = some (pt gs)) (ca : w.cell? ⟨ga, 1, none⟩ = some (.int .i64 (frm : Int))) (ch : w.cell? ⟨ga, 3, none⟩ = some (.int .i64 (heads : Int))) (hh : heads < 2 ^ 30) (hi : frm + heads ≤ b.n) (hz : ∀ k, k < heads → (b.read (frm + k))[0]? = some 0) :
  Calls Tryz.prog 87 #[pt g, pt ga] w fun e w' => e = .returned .nilIface ∧ Below w.heap.size w w' := by
 have HR := Lib.hid (fun (k : Nat) (hk : k < heads) (W : World) (h : Below w.heap.size w W) => sread_ok W (tagged w own 0) t gs b (H.keep (Kp.below (ts := fun _ => False) h 0) (fun q => q) (fun q => q) (fun q => q) (fun q => q)) g ga frm k (cellOf h cg) (cellOf h ca) (by omega) hf)
 have HZ := Lib.hid hz
 clear H hz
 go_enter Tryz.func87, Tryz.ntmps87
 go_wp2_with fail
 go_loopw [19, 6, 7] (fun v _ _ wr => ∃ k : Nat, k ≤ heads ∧ v = .int .i64 (k : Int) ∧ Below w.heap.size w wr) (fun v _ _ _ => heads - (intOf v).toNat)
 case atStart => exact ⟨0, by omega, rfl, Below.refl _ _⟩
 case round =>
  obtain ⟨k, hk, rfl, hb⟩ := hrel
  by_cases hlt : k < heads
  ·
   have dl : decide ((k : Int) < (heads : Int)) = true := by simp; omega
   have hkn : (k : Int) < (heads : Int) := by omega
   go_wp2_with (go_at_call 125; refine Calls.mono (HR.out k hlt _ hb) ?_; rintro e w' ⟨D, rfl, f1, f2, f3⟩; obtain ⟨ad, hD, hc⟩ := sc_at f1 0 (by decide) 0 (HZ.out k hlt); subst hD; rw [Addr.add_zero'] at hc)
   go_roundw
   case rel => exact ⟨k + 1, by omega, by go_num, hb.trans (f3.mono hb.size)⟩
   case measure => simp [intOf]; omega
  ·
   obtain rfl : k = heads := by omega
   have dl : decide ((k : Int) < (k : Int)) = false := by simp
   go_wp2_with fail
   go_ret
   exact ⟨rfl, hb⟩
theorem newest_none (w : World) (g ga : Nat) (c0 c1 c2 c3 : Value) (A : Option Addr) (c : Nat) (hb : Blk w ga #[c0, c1, c2, c3, .slice A 0 c] 102) :
  Calls Tryz.prog 88 #[pt g, pt ga] w fun e w' => e = .returned (.tuple #[.bool false, .nilIface]) ∧ w' = w.setCell ⟨ga, 4, none⟩ (.slice none 0 0) := by
 have c4 : w.cell? ⟨ga, 4, none⟩ = some (.slice A 0 c) := Blk.cell (i := 4) hb rfl
 have z4 : w.frozen? ⟨ga, 4, none⟩ = false := Blk.frozen hb
 clear hb
 go_enter Tryz.func88, Tryz.ntmps88
 go_wp2_with fail
 go_loopw [17, 6, 7] (fun v l b wr => v = .int .i64 0 ∧ l = .slice none 0 0 ∧ b = .bool false ∧ wr = w) (fun _ _ _ _ => 0)
 case atStart => exact ⟨rfl, rfl, rfl, rfl⟩
 case round =>
  obtain ⟨rfl, rfl, rfl, rfl⟩ := hrel
  go_wp2_with fail
  go_ret2
  exact ⟨rfl, rfl⟩
end Go.Proofs.YtmofiicjaldmiaaGreatDoor.SwI
end
section
namespace Go.Proofs.YtmofiicjaldmiaaGreatDoor.SwJ
open Go.RowKit Go.Shelf YtmofiicjaldmiaaGreatDoorW.PrintWords YtmofiicjaldmiaaGreatDoorW.PrintLast SvA SvB SvC SvD SvE SvF SvG SvH SvI SvJ SvK SvL SvM SvN SvO SvP SvQ SvR SvS SvT SvU SvV SvW SvX SvY SvZ SwA SwB SwC SwD SwE SwF SwG SwI
set_option linter.unusedVariables false
set_option linter.unusedSimpArgs false
def S0 (b : BS) : SV := ⟨b, fun i => ⟨i + 1, i * (b.n / 8), b.n / 8, (b.n / 8 + 7) / 8, []⟩, false⟩
def arC (n i : Nat) : Array Value := #[.int .i64 ((i : Int) + 1), .int .i64 (wrap64 ((i : Int) * ((n : Int) / 8))), .int .i64 ((n : Int) / 8), .int .i64 (((n : Int) / 8 + 7) / 8), .slice none 0 0]
theorem arC_frm {n i : Nat} (hn : n < 2 ^ 20) (hi : i < 8) : wrap64 ((i : Int) * ((n : Int) / 8)) = ((i * (n / 8) : Nat) : Int) := by
 have h1 : i * (n / 8) ≤ 8 * 2 ^ 20 := Nat.mul_le_mul (by omega) (by omega)
 have h2 : ((i : Int) * ((n : Int) / 8)) = ((i * (n / 8) : Nat) : Int) := by rw [Int.natCast_mul, Int.natCast_ediv]; rfl
 rw [h2]
 generalize i * (n / 8) = m at *
 unfold wrap64
 omega
structure OpSt (w : World) (own : Nat → Nat) (t g gs : Nat) (b : BS) (k : Nat) (wr : World) (o : Nat → Nat) (ga : Nat → Nat) (cs : Array Value) : Prop where
 bk : Blk wr g cs 93
 sz : cs.size = 10
 c0 : cs[0]? = some (pt gs)
 c9 : cs[9]? = some (.bool false)
 ca : ∀ j, j < k → cs[1 + j]? = some (pt (ga j))
 ar : ∀ j, j < k → o (ga j) = t + 4 + j ∧ Blk wr (ga j) (arC b.n j) 102
 st : StA wr o t gs b
 og : o g = t + 3
 kp : Kp (k20 t) w own wr o
theorem OpSt.below {w : World} {own : Nat → Nat} {t g gs : Nat} {b : BS} {k : Nat} {wr W : World} {o : Nat → Nat} {ga : Nat → Nat} {cs : Array Value} (H : OpSt w own t g gs b k wr o ga cs) (h : Below wr.heap.size wr W) : OpSt w own t g gs b k W (tagged wr o 0) ga cs := by
 have hk : Kp (fun _ => False) wr o W (tagged wr o 0) := Kp.below h 0
 obtain ⟨a1, a2⟩ := H.bk.keep hk (fun q => q)
 exact ⟨a1, H.sz, H.c0, H.c9, H.ca, fun j hj => by obtain ⟨x, y⟩ := H.ar j hj; obtain ⟨p, q⟩ := y.keep hk (fun q => q); exact ⟨q.trans x, p⟩, H.st.keep hk (fun q => q) (fun q => q) (fun q => q) (fun q => q), a2.trans H.og, H.kp.trans (hk.mono (fun _ h => h.elim))⟩
theorem OpSt.push {w : World} {own : Nat → Nat} {t g gs : Nat} {b : BS} {k : Nat} {wr : World} {o : Nat → Nat} {ga : Nat → Nat} {cs : Array Value} (H : OpSt w own t g gs b k wr o ga cs) (ht : t ≠ 0) (hk8 : k < 8) :
  OpSt w own t g gs b (k + 1) ((wr.alloc (.cells (arC b.n k) 102)).setCell ⟨g, 1 + k, none⟩ (pt wr.heap.size)) (tagged wr o (t + 4 + k)) (fun j => if j = k then wr.heap.size else ga j) (cs.setIfInBounds (1 + k) (pt wr.heap.size)) := by
 have h1 : Kp (fun _ => False) wr o (wr.alloc (.cells (arC b.n k) 102)) (tagged wr o (t + 4 + k)) := Kp.below (ba _) _
 obtain ⟨b1, b2⟩ := H.bk.keep h1 (fun q => q)
 have og1 : tagged wr o (t + 4 + k) g = t + 3 := b2.trans H.og
 have h2 : Kp (fun q => q = t + 3) (wr.alloc (.cells (arC b.n k) 102)) (tagged wr o (t + 4 + k)) ((wr.alloc (.cells (arC b.n k) 102)).setCell ⟨g, 1 + k, none⟩ (pt wr.heap.size)) (tagged wr o (t + 4 + k)) := (Kp.refl _ _ _).set _ _ (fun q hq hn e => hn (by rw [e]; exact og1))
 have h3 : Kp (fun q => q = t + 3) wr o _ _ := (h1.mono (fun _ h => h.elim)).trans h2
 have hsz := H.sz
 have hgl : g < wr.heap.size := H.bk.lt
 refine ⟨Blk.set b1 _, by rw [Array.size_setIfInBounds]; exact hsz, by rw [Array.getElem?_setIfInBounds_ne (by omega)]; exact H.c0, by rw [Array.getElem?_setIfInBounds_ne (by omega)]; exact H.c9, fun j hj => ?_, fun j hj => ?_, H.st.keep h3 (by omega) (by omega) (by omega) (by omega), og1, H.kp.trans (h3.mono (fun q h => ⟨by omega, by omega⟩))⟩
 ·
  by_cases e : j = k
  ·
   subst e
   rw [Array.getElem?_setIfInBounds_self_of_lt (by omega), if_pos rfl]
  ·
   rw [Array.getElem?_setIfInBounds_ne (by omega), if_neg e]
   exact H.ca j (by omega)
 ·
  by_cases e : j = k
  ·
   subst e
   rw [if_pos rfl]
   exact ⟨tagged_new (Nat.le_refl _), Blk.other (blkNew rfl) (by show wr.heap.size ≠ g; omega) _⟩
  ·
   rw [if_neg e]
   obtain ⟨x, y⟩ := H.ar j (by omega)
   obtain ⟨p, q⟩ := y.keep h3 (by rw [x]; omega)
   exact ⟨q.trans x, p⟩
theorem OpSt.mem {w : World} {own : Nat → Nat} {t g gs : Nat} {b : BS} {wr : World} {o : Nat → Nat} {ga : Nat → Nat} {cs : Array Value} (H : OpSt w own t g gs b 8 wr o ga cs) (hn : b.n < 2 ^ 20) : SvMem wr o t g gs ga (S0 b) := by
 have e : cs = svCells gs ga false := by
  apply Array.ext_getElem?
  intro i
  by_cases h0 : i = 0
  · subst h0; rw [H.c0]; rfl
  by_cases h9 : i = 9
  · subst h9; rw [H.c9]; rfl
  by_cases hi : i < 10
  ·
   have := H.ca (i - 1) (by omega)
   rw [show 1 + (i - 1) = i by omega] at this
   rw [this]
   rcases (show i = 1 ∨ i = 2 ∨ i = 3 ∨ i = 4 ∨ i = 5 ∨ i = 6 ∨ i = 7 ∨ i = 8 by omega) with rfl | rfl | rfl | rfl | rfl | rfl | rfl | rfl <;> rfl
  · rw [Array.getElem?_eq_none (by rw [H.sz]; omega), Array.getElem?_eq_none (by show 10 ≤ i; omega)]
 have hb := H.bk
 rw [e] at hb
 refine ⟨H.og, hb, H.st, fun i hi => ?_⟩
 obtain ⟨x, y⟩ := H.ar i hi
 refine ⟨nilS, [], x, ?_, Kd.R_nil _ _ _ _ _, rfl, fun p hp => by cases hp⟩
 have e2 : arC b.n i = #[.int .i64 (((S0 b).ar i).ten : Int), .int .i64 (((S0 b).ar i).frm : Int), .int .i64 (((S0 b).ar i).sec : Int), .int .i64 (((S0 b).ar i).heads : Int), nilS.enc] := by
  show arC b.n i = #[.int .i64 ((i + 1 : Nat) : Int), .int .i64 ((i * (b.n / 8) : Nat) : Int), .int .i64 ((b.n / 8 : Nat) : Int), .int .i64 (((b.n / 8 + 7) / 8 : Nat) : Int), .slice none 0 0]
  unfold arC
  rw [arC_frm hn hi]
  simp
 rw [← e2]
 exact y
theorem newest_mem {w : World} {own : Nat → Nat} {t g gs : Nat} {ga : Nat → Nat} {b : BS} (H : SvMem w own t g gs ga (S0 b)) (i : Nat) (hi : i < 8) (ht : t ≠ 0) :
  Calls Tryz.prog 88 #[pt g, pt (ga i)] w fun e w' => e = .returned (.tuple #[.bool false, .nilIface]) ∧ SvMem w' own t g gs ga (S0 b) ∧ Kp (k20 t) w own w' own := by
 obtain ⟨z, ps, hg, hb, hs, he⟩ := H.ar i hi
 have hps : ps = [] := List.map_eq_nil_iff.1 he.1
 subst hps
 have hz : z.n = 0 := (ow_len hs).1.symm
 obtain ⟨A, n, c⟩ := z
 dsimp only at hz
 subst hz
 refine (newest_none w g (ga i) _ _ _ _ A c hb).mono ?_
 rintro e w' ⟨rfl, rfl⟩
 have hk : Kp (fun q => q = t + 4 + i) w own (w.setCell ⟨ga i, 4, none⟩ (.slice none 0 0)) own := (Kp.refl _ w own).set _ _ (fun k hk hn e => hn (by rw [e]; exact hg))
 have hM := SvMem.ents (es := []) H i hi (ps := []) (z := nilS) (hk.mono (fun q h => .inl h)) ht hg (Blk.set (i := 4) hb _) (Kd.R_nil _ _ _ _ _) ⟨rfl, fun p hp => by cases hp⟩
 have e : SV.setE (S0 b) i [] = S0 b := by
  unfold SV.setE S0
  congr 1
  funext j
  by_cases hj : j = i <;> simp [hj]
 rw [e] at hM
 exact ⟨rfl, hM, hk.mono (fun q h => ⟨by omega, by omega⟩)⟩
set_option maxRecDepth 100000 in
set_option maxHeartbeats 1000000 in
theorem open_zero (w : World) (own : Nat → Nat) (t g gs : Nat) (b : BS) (hst : StA w own t gs b) (ht : t ≠ 0) (og : own g = t + 3) (hb : Blk w g #[pt gs, .pointer none, .pointer none, .pointer none, .pointer none, .pointer none, .pointer none, .pointer none, .pointer none, .bool false] 93)
  (hf : Fits b) (hn : b.n < 2 ^ 20) (hz : ∀ k, k < b.n → (b.read k)[0]? = some 0) :
  Calls Tryz.prog 48 #[pt g] w fun e w' => e = .returned .nilIface ∧ ∃ own' ga, SvMem w' own' t g gs ga (S0 b) ∧ Kp (k20 t) w own w' own' := by
 obtain ⟨zs, zp, ps, hg, hbs, hs, hpe, hd⟩ := hst
 have hzl : zs.n = b.safe.length := (ow_len hs).1.symm
 have hsc := sectors_ok w gs zs _ _ _ hbs (by rw [hzl]; exact hf.hz)
 rw [show zs.n / 512 = b.n by rw [hzl]; rfl] at hsc
 have hst : StA w own t gs b := ⟨zs, zp, ps, hg, hbs, hs, hpe, hd⟩
 have c0 : w.cell? ⟨g, 0, none⟩ = some (pt gs) := Blk.cell (i := 0) hb rfl
 have HST := Lib.hid (show OpSt w own t g gs b 0 w own (fun _ => 0) #[pt gs, .pointer none, .pointer none, .pointer none, .pointer none, .pointer none, .pointer none, .pointer none, .pointer none, .bool false] from ⟨hb, rfl, rfl, rfl, fun j hj => absurd hj (Nat.not_lt_zero _), fun j hj => absurd hj (Nat.not_lt_zero _), hst, og, Kp.refl _ _ _⟩)
 have HSC := Lib.hid hsc
 have HZ := Lib.hid hz
 clear hg hbs hs hpe hd hzl hsc hst hz hb
 go_enter Tryz.func48, Tryz.ntmps48
 go_wp2_with (go_at_call 22; refine HSC.out.mono ?_; rintro e w' ⟨rfl, rfl⟩)
 go_loopw [18, 4, 5, 6] (fun v _ _ _ wr => ∃ k : Nat, k ≤ 8 ∧ v = .int .i64 (k : Int) ∧ ∃ o ga cs, OpSt w own t g gs b k wr o ga cs) (fun v _ _ _ _ => 8 - (intOf v).toNat)
 case atStart => exact ⟨0, by omega, rfl, own, _, _, HST.out⟩
 case round =>
  obtain ⟨k, hk, rfl, o, ga, cs, H⟩ := hrel
  by_cases hlt : k < 8
  ·
   have dl : decide ((k : Int) < 8) = true := by simp; omega
   have hkn : (k : Int) < 8 := by omega
   have hk0 : (0 : Int) ≤ (k : Int) := by omega
   have cg := Blk.cell (i := 0) H.bk H.c0
   have zg : wr.frozen? ⟨g, 1 + k, none⟩ = false := Blk.frozen H.bk
   obtain ⟨v, hv⟩ : ∃ v, cs[1 + k]? = some v := ⟨_, Array.getElem?_eq_getElem (by rw [H.sz]; omega)⟩
   have ck : wr.cell? ⟨g, 1 + k, none⟩ = some v := Blk.cell H.bk hv
   have ck2 : ∀ o : Obj, (wr.alloc o).cell? ⟨g, 1 + k, none⟩ = some v := fun o => cellOf (ba o) ck
   have zk2 : ∀ o : Obj, (wr.alloc o).frozen? ⟨g, 1 + k, none⟩ = false := fun o => Blk.frozen (H.bk.below (ba o))
   have HP := Lib.hid (H.push ht hlt)
   have hs := scan_zero _ _ t gs b HP.out.st hf g wr.heap.size (k * (b.n / 8)) ((b.n / 8 + 7) / 8) (Blk.cell HP.out.bk HP.out.c0)
    (by have := (HP.out.ar k (by omega)).2; rw [if_pos rfl] at this; rw [← arC_frm hn hlt]; exact Blk.cell (i := 1) this rfl)
    (by have := (HP.out.ar k (by omega)).2; rw [if_pos rfl] at this; exact Blk.cell (i := 3) this rfl)
    (by omega) (by have : k * (b.n / 8) ≤ 7 * (b.n / 8) := Nat.mul_le_mul (by omega) (Nat.le_refl _); omega) (fun j hj => HZ.out _ (by have : k * (b.n / 8) ≤ 7 * (b.n / 8) := Nat.mul_le_mul (by omega) (Nat.le_refl _); omega))
   have HS := Lib.hid hs
   clear H hv hs
   go_wp2_with (go_at_call 87; refine Calls.mono HS.out ?_; rintro e w' ⟨rfl, hb⟩)
   case roundEnd => exact ⟨⟨k + 1, by omega, by go_num, _, _, _, HP.out.below hb⟩, by simp [intOf]; omega⟩
  ·
   have dl : decide ((k : Int) < 8) = false := by simp; omega
   have h8 : k = 8 := by omega
   rw [h8] at H
   clear h8
   have hM := OpSt.mem H hn
   have q0 := hM.ca 0 (by omega)
   have q1 := hM.ca 1 (by omega)
   have q2 := hM.ca 2 (by omega)
   have q3 := hM.ca 3 (by omega)
   have q4 := hM.ca 4 (by omega)
   have q5 := hM.ca 5 (by omega)
   have q6 := hM.ca 6 (by omega)
   have q7 := hM.ca 7 (by omega)
   have HM := Lib.hid (And.intro hM H.kp)
   clear H hM
   go_wp2_with fail
   have HI : ∀ (k : Nat), k < 8 → ∀ W : World, (Instr.index 91 (.agg #[pt (ga 0), pt (ga 1), pt (ga 2), pt (ga 3), pt (ga 4), pt (ga 5), pt (ga 6), pt (ga 7)]) (.int .i64 (k : Int))).run Tryz.prog W = .ok (pt (ga k)) W := by
    intro k hk W
    rcases (show k = 0 ∨ k = 1 ∨ k = 2 ∨ k = 3 ∨ k = 4 ∨ k = 5 ∨ k = 6 ∨ k = 7 by omega) with rfl | rfl | rfl | rfl | rfl | rfl | rfl | rfl <;> kernel_rfl
   have HI' := Lib.hid HI
   clear q0 q1 q2 q3 q4 q5 q6 q7 HI
   go_loopw [49, 9, 10, 11, 7] (fun v _ _ _ f wr2 => ∃ j : Nat, j ≤ 8 ∧ v = .int .i64 (j : Int) ∧ f = .bool false ∧ SvMem wr2 o t g gs ga (S0 b) ∧ Kp (k20 t) w own wr2 o) (fun v _ _ _ _ _ => 8 - (intOf v).toNat)
   case atStart => exact ⟨0, by omega, rfl, rfl, HM.out⟩
   case round =>
    obtain ⟨j, hj, rfl, rfl, hM, hK⟩ := hrel
    by_cases hlt : j < 8
    ·
     have dl : decide ((j : Int) < 8) = true := by simp; omega
     have hjn : (j : Int) < 8 := by omega
     have HC := Lib.hid (newest_mem hM j hlt ht)
     have HK := Lib.hid hK
     have hi := HI'.out j hlt
     clear hM hK
     go_wp2_with (go_at_call 88; refine Calls.mono HC.out ?_; rintro e w' ⟨rfl, h1, h2⟩)
     go_roundw
     case rel => exact ⟨j + 1, by omega, by go_num, rfl, h1, HK.out.trans h2⟩
     case measure => simp [intOf]; omega
    ·
     have dl : decide ((j : Int) < 8) = false := by simp; omega
     have HM2 := Lib.hid (And.intro hM hK)
     clear hM hK
     go_wp2_with fail
     go_ret
     exact ⟨rfl, o, ga, HM2.out.1, HM2.out.2⟩
theorem Open_zero (w : World) (own : Nat → Nat) (t gs : Nat) (b : BS) (H : StA w own t gs b) (ht : t ≠ 0) (hf : Fits b) (hn : b.n < 2 ^ 20) (hz : ∀ k, k < b.n → (b.read k)[0]? = some 0) :
  Calls Tryz.prog 17 #[pt gs] w fun e w' => ∃ g own' ga, e = .returned (.tuple #[pt g, .int .i64 0]) ∧ w.heap.size ≤ g ∧ SvMem w' own' t g gs ga (S0 b) ∧ Kp (k20 t) w own w' own' := by
 have h1 : Kp (fun _ => False) w own (w.alloc (.cells #[pt gs, .pointer none, .pointer none, .pointer none, .pointer none, .pointer none, .pointer none, .pointer none, .pointer none, .bool false] 93)) (tagged w own (t + 3)) := Kp.below (ba _) _
 have HO := Lib.hid (open_zero _ (tagged w own (t + 3)) t w.heap.size gs b (H.keep h1 (fun q => q) (fun q => q) (fun q => q) (fun q => q)) ht (tagged_new (Nat.le_refl _)) (blkNew rfl) hf hn hz)
 have HK := Lib.hid h1
 clear h1 H hz
 go_enter Tryz.func17, Tryz.ntmps17
 go_wp2_with (first | (go_at_call 48; refine Calls.mono HO.out ?_; rintro e w1 ⟨rfl, own', ga, hM, hK⟩) | (go_at_call 47; refine Calls.mono (code_nil _) ?_; rintro e w2 ⟨rfl, hb⟩))
 go_ret2
 exact ⟨_, _, _, rfl, Nat.le_refl _, hM.below hb, ((HK.out.mono (fun _ h => h.elim)).trans hK).trans (Kp.below hb 0)⟩
end Go.Proofs.YtmofiicjaldmiaaGreatDoor.SwJ
end
