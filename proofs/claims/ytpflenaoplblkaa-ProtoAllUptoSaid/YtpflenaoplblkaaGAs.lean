import Derived.Test.YtpflenaoplblkaaGAr
section
namespace Go.Proofs.Ytpflenaoplblkaa.PaZ
open Go.RowKit YtpflenaoplblkaaW.PrintWords YtpflenaoplblkaaW.PrintLast ProA ProB ProC ProI ProD ProG ProJ ProK ProL ProM ProN ProO ProP ProQ ProR ProU ProZ ProBb PaA
open ProH (msgTab repTab ba)
open ProS PaI PaJ PaK PaL
open PaM PaN PaO PaP PaQ PaR PaS PaT PaU PaV PaWa PaW PaXa PaX PaYa PaYb PaY PaZa PaD
set_option linter.unusedVariables false
set_option linter.unusedSimpArgs false
structure OpS where
 kd : Int
 pp : Int
 d : Sl
 dx : List Int
 m0 : Int
 m1 : Int
 m2 : ByteArray
 m3 : Int
 md : Sl
 mx : List Int
 r0 : Int
 r1 : Int
 r2 : Int
 rd : Sl
 rx : List Int
def OpS.cells (o : OpS) : Array Value := #[.int .i64 o.kd, .int .i64 o.pp, o.d.enc, .int .i64 o.m0, .int .i64 o.m1, .string o.m2, .int .i64 o.m3, o.md.enc, .int .i64 o.r0, .int .i64 o.r1, .int .i64 o.r2, o.rd.enc]
structure OpOk (w : World) (own : Nat → Nat) (o : OpS) : Prop where
 d : Rd u8K w own 27 o.d o.dx
 md : Rd u8K w own 27 o.md o.mx
 rd : Rd u8K w own 27 o.rd o.rx
 ud : u8s o.dx
 um : u8s o.mx
 ur : u8s o.rx
 ld : o.dx.length ≤ 1100000
 lm : o.mx.length ≤ 1100000
 lr : o.rx.length ≤ 1100000
 ln : o.m2.size ≤ 1000000000
theorem OpOk.keep {w w' : World} {own own' : Nat → Nat} {o : OpS} {ts : Nat → Prop} (h : OpOk w own o) (hk : Kp ts w own w' own') (h27 : ¬ ts 27) : OpOk w' own' o :=
  ⟨h.d.keep u8K_K (by decide) hk h27, h.md.keep u8K_K (by decide) hk h27, h.rd.keep u8K_K (by decide) hk h27, h.ud, h.um, h.ur, h.ld, h.lm, h.lr, h.ln⟩
structure CoB (w0 : World) (own0 : Nat → Nat) (gop : Nat) (kd : Int) (w : World) (own : Nat → Nat) (o : OpS) : Prop where
 blk : Blk w gop o.cells 64
 og : own gop = 24
 ok : OpOk w own o
 kd : o.kd = kd
 kp : Kp big w0 own0 w own
theorem CoB.keep {w0 w w' : World} {own0 own own' : Nat → Nat} {gop : Nat} {kd : Int} {o : OpS} {ts : Nat → Prop} (h : CoB w0 own0 gop kd w own o) (hk : Kp ts w own w' own') (h24 : ¬ ts 24) (h27 : ¬ ts 27) (hb : ∀ q, ts q → big q) : CoB w0 own0 gop kd w' own' o :=
  ⟨(Blk.keep h.blk hk (by rw [h.og]; exact h24)).1, (Blk.keep h.blk hk (by rw [h.og]; exact h24)).2.trans h.og, h.ok.keep hk h27, h.kd, h.kp.trans (hk.mono hb)⟩
structure CoX (h : Gh) (i : Nat) (E D cs : List (Sl × List Int)) : Prop where
 cs : cs.map (·.2) = D.map (·.2)
 dl : D.length ≤ i
 dx : ∀ p ∈ D, p.2.length ≤ 100000000
 el : E.length ≤ h.E.length + i
 ex : ∀ p ∈ E, p ∈ h.E ∨ ((∀ x ∈ p.2, x = 251) ∧ p.2.length ≤ 100000000)
theorem CoX.len {h : Gh} {i : Nat} {E D cs : List (Sl × List Int)} (H : CoX h i E D cs) : cs.length = D.length := by have := congrArg List.length H.cs; simpa using this
theorem CoX.succ {h : Gh} {i n : Nat} {E E1 D cs : List (Sl × List Int)} {z c G : Sl} {xs : List Int} (H : CoX h i E D cs) (h1 : ∀ p ∈ E1, p ∈ E) (h2 : E1.length ≤ E.length) (hx : xs.length ≤ 100000000) (hn : n ≤ 100000000) : CoX h (i + 1) (E1 ++ [(G, List.replicate n 251)]) (D ++ [(z, xs)]) (cs ++ [(c, xs)]) := by
 refine ⟨by rw [List.map_append, List.map_append, H.cs]; rfl, ?_, fun p hp => ?_, ?_, fun p hp => ?_⟩
 · have := H.dl; simp; omega
 ·
  rcases List.mem_append.1 hp with hp | hp
  · exact H.dx p hp
  · simp only [List.mem_singleton] at hp; subst hp; exact hx
 · have := H.el; simp; omega
 ·
  rcases List.mem_append.1 hp with hp | hp
  · exact H.ex p (h1 p hp)
  · simp only [List.mem_singleton] at hp; subst hp; exact .inr ⟨fun x hx9 => List.eq_of_mem_replicate hx9, by simp only [List.length_replicate]; omega⟩
theorem CoX.sm {h : Gh} {i : Nat} {E D cs : List (Sl × List Int)} (H : CoX h i E D cs) (hi : i ≤ 1000) (hM : Sm h) (hF : h.F.length ≤ 900000000000) (hE : h.E.length ≤ 4000000000000) (E1 : List (Sl × List Int)) (h1 : ∀ p ∈ E1, p ∈ E) (h2 : E1.length ≤ E.length) : Sm { h with E := E1, F := h.F ++ D, C := h.C ++ cs } := by
 have e1 := H.el
 have e2 := H.dl
 refine ⟨by simp; omega, hM.T, hM.A, hM.B, hM.M, hM.R, by dsimp only; omega, hM.L, fun p hp => ?_, hM.tx, hM.ax, hM.bx, hM.mx, hM.rx, fun p hp => ?_⟩
 ·
  rcases List.mem_append.1 hp with hp | hp
  · exact hM.fx p hp
  · have := H.dx p hp; omega
 ·
  rcases H.ex p (h1 p hp) with hp | hp
  · exact hM.ex p hp
  · omega
theorem CoB.putM {w0 w : World} {own0 own : Nat → Nat} {gop : Nat} {kd : Int} {o : OpS} (h : CoB w0 own0 gop kd w own o) (z : Sl) (xs : List Int) (hz : Rd u8K w own 27 z xs) (hu : u8s xs) (hl : xs.length ≤ 1100000) :
  CoB w0 own0 gop kd (w.setCell ⟨gop, 7, none⟩ z.enc) own { o with md := z, mx := xs } ∧ Kp (fun q => q = 24) w own (w.setCell ⟨gop, 7, none⟩ z.enc) own := by
 have hk : Kp (fun q => q = 24) w own (w.setCell ⟨gop, 7, none⟩ z.enc) own := (Kp.refl _ _ _).set _ _ (fun k _ hn e => hn (by have e' : k = gop := e; rw [e']; exact h.og))
 exact ⟨⟨Blk.set (i := 7) h.blk _, h.og, ⟨h.ok.d.keep u8K_K (by decide) hk (by decide), hz.keep u8K_K (by decide) hk (by decide), h.ok.rd.keep u8K_K (by decide) hk (by decide), h.ok.ud, hu, h.ok.ur, h.ok.ld, hl, h.ok.lr, h.ok.ln⟩, h.kd, h.kp.trans (hk.mono (fun q hq => by unfold big; omega))⟩, hk⟩
theorem CoB.putR {w0 w : World} {own0 own : Nat → Nat} {gop : Nat} {kd : Int} {o : OpS} (h : CoB w0 own0 gop kd w own o) (z : Sl) (xs : List Int) (hz : Rd u8K w own 27 z xs) (hu : u8s xs) (hl : xs.length ≤ 1100000) :
  CoB w0 own0 gop kd (w.setCell ⟨gop, 11, none⟩ z.enc) own { o with rd := z, rx := xs } ∧ Kp (fun q => q = 24) w own (w.setCell ⟨gop, 11, none⟩ z.enc) own := by
 have hk : Kp (fun q => q = 24) w own (w.setCell ⟨gop, 11, none⟩ z.enc) own := (Kp.refl _ _ _).set _ _ (fun k _ hn e => hn (by have e' : k = gop := e; rw [e']; exact h.og))
 exact ⟨⟨Blk.set (i := 11) h.blk _, h.og, ⟨h.ok.d.keep u8K_K (by decide) hk (by decide), h.ok.md.keep u8K_K (by decide) hk (by decide), hz.keep u8K_K (by decide) hk (by decide), h.ok.ud, h.ok.um, hu, h.ok.ld, h.ok.lm, hl, h.ok.ln⟩, h.kd, h.kp.trans (hk.mono (fun q hq => by unfold big; omega))⟩, hk⟩
theorem CoB.ne {w0 w : World} {own0 own : Nat → Nat} {gop gm t : Nat} {kd : Int} {o : OpS} {cs : Array Value} (h : CoB w0 own0 gop kd w own o) (hm : Blk w gm cs t) (ht : t ≠ 64) : gop ≠ gm := by
 intro e
 subst e
 have h1 : w.heap[gop]? = _ := h.blk
 have h2 : w.heap[gop]? = _ := hm
 rw [h1] at h2
 simp at h2
 exact ht h2.2.symm
theorem CoB.setOther {w0 w : World} {own0 own : Nat → Nat} {gop gm : Nat} {kd : Int} {o : OpS} (h : CoB w0 own0 gop kd w own o) (hne : gop ≠ gm) (hg : own gm = 24) (i : Nat) (v : Value) : CoB w0 own0 gop kd (w.setCell ⟨gm, i, none⟩ v) own o := by
 have hk : Kp (fun q => q = 24) w own (w.setCell ⟨gm, i, none⟩ v) own := (Kp.refl _ _ _).set _ _ (fun k _ hn e => hn (by have e' : k = gm := e; rw [e']; exact hg))
 exact ⟨Blk.other h.blk hne v, h.og, h.ok.keep hk (by decide), h.kd, h.kp.trans (hk.mono (fun q hq => by unfold big; omega))⟩
theorem hand_tag {w : World} {own : Nat → Nat} {t : Nat} {G D : Sl} {xs ys : List Int} (hG : Ow u8K 5 w own t G (xs ++ ys)) {w0 : World} {own0 : Nat → Nat} {tD : Nat} (hD : Rd u8K w0 own0 tD D xs) : ∀ a, (handS G D).A = some a → 0 < (handS G D).n → own a.block = t := by
 intro a ha hn
 obtain ⟨A, n, c⟩ := D
 cases A with
 | none => simp [handS, nilS] at ha
 | some ad => exact (ow_blk hG a.block (ow_blk_of hG a ha)).1
def CodP (w : World) (own : Nat → Nat) (g : Nat) (h : Gh) (w' : World) : Prop :=
  ∃ (own' : Nat → Nat) (s' : St) (E D cs : List (Sl × List Int)), WInv w' g own' s' { h with E := E, F := h.F ++ D, C := h.C ++ cs } ∧ CoX h 3 E D cs ∧ Kp big w own w' own'
set_option maxHeartbeats 8000000 in
set_option maxRecDepth 100000 in
theorem codes_ok (w : World) (g : Nat) (own : Nat → Nat) (s : St) (h : Gh) (o : OpS) (H : WInv w g own s h) (hm : Sm h) (ho : OpOk w own o) (hC : h.C.length = h.F.length) (hF : h.F.length ≤ 900000000000) (hE : h.E.length ≤ 4000000000000) :
  Calls Try.prog 31 #[pt g, .agg o.cells] w fun e w' => e = .returned (.bool true) ∧ CodP w own g h w' := by
 have HM := Lib.hid hm
 have HC := Lib.hid hC
 have HI := Lib.hid H
 have HO := Lib.hid ho
 clear hm hC H ho
 unfold OpS.cells
 simp only [Sl.enc]
 go_enter Try.func31, Try.ntmps31
 go_upto_region 1 with (fail)
 obtain ⟨gop, hgp⟩ : ∃ gop, gop = w.heap.size := ⟨_, rfl⟩
 have hk0 := Kp.below (ts := fun _ => False) (own := own) (Below.alloc (Below.refl w.heap.size w) (Nat.le_refl _) (.cells o.cells 64)) 24
 have HW := Lib.hid (HI.out.keep (hk0.mono (fun q hq => hq.elim)))
 have HB := Lib.hid (show CoB w own gop o.kd (w.alloc (.cells o.cells 64)) (tagged w own 24) o from ⟨by rw [hgp]; exact blkNew rfl, by rw [hgp]; exact tagged_new (Nat.le_refl _), HO.out.keep hk0 (fun hq => hq), rfl, hk0.mono (fun q hq => hq.elim)⟩)
 simp only [← hgp]
 clear hk0 hgp HI HO
 simp only [show ∀ W : World, W.alloc (.cells #[.int .i64 o.kd, .int .i64 o.pp, .slice o.d.A o.d.n o.d.c, .int .i64 o.m0, .int .i64 o.m1, .string o.m2, .int .i64 o.m3, .slice o.md.A o.md.n o.md.c, .int .i64 o.r0, .int .i64 o.r1, .int .i64 o.r2, .slice o.rd.A o.rd.n o.rd.c] 64) = W.alloc (.cells o.cells 64) from fun _ => rfl]
 generalize w.alloc (.cells o.cells 64) = w0 at HW HB ⊢
 generalize tagged w own 24 = o0 at HW HB
 obtain ⟨kd, hkd⟩ : ∃ kd, kd = o.kd := ⟨_, rfl⟩
 simp only [← hkd] at HB
 clear hkd
 go_wp2_with fail
 go_loopw [5, 6, 7, 8, 9, 10, 11, 12, 13, 14] (fun i _a _b _c _d _e _f _g _h _i wr => ∃ (j : Nat) (q : Nat → Nat) (oo : OpS) (s' : St) (E D cs : List (Sl × List Int)), j ≤ 3 ∧ i = .int .i64 (j : Int) ∧ CoB w own gop kd wr q oo ∧ WInv wr g q s' { h with E := E, F := h.F ++ D, C := h.C ++ cs } ∧ CoX h j E D cs) (fun i _ _ _ _ _ _ _ _ _ _ => 3 - (intOf i).toNat)
 case atStart =>
  have hw := HW.out
  refine ⟨0, o0, o, s, h.E, [], [], by omega, rfl, HB.out, ?_, ⟨rfl, by simp, by simp, by omega, fun p hp => .inl hp⟩⟩
  simp only [List.append_nil]
  exact hw
 case round =>
  clear HW HB
  obtain ⟨j, q, oo, s', E, D, cs, hj, rfl, HB, HW, HX⟩ := hrel
  by_cases hlt : j < 3
  ·
   have dl : decide ((j : Int) < 3) = true := by simp; omega
   have c7 : wr.cell? ⟨gop, 7, none⟩ = some (.slice oo.md.A oo.md.n oo.md.c) := Blk.cell (i := 7) HB.blk rfl
   have c11 : wr.cell? ⟨gop, 11, none⟩ = some (.slice oo.rd.A oo.rd.n oo.rd.c) := Blk.cell (i := 11) HB.blk rfl
   have c0 : wr.cell? ⟨gop, 0, none⟩ = some (.int .i64 oo.kd) := Blk.cell (i := 0) HB.blk rfl
   by_cases h2 : j = 2
   ·
    have d2 : decide ((j : Int) = 2) = true := by simp; omega
    have d2' : ((j : Int) == 2) = true := by simp; omega
    have hlm := HB.ok.lm
    have hlr := HB.ok.lr
    go_upto_region 8 with (go_at_call 50; refine Calls.mono (other_ok wr q oo.md oo.mx 27 HB.ok.md (by omega)) ?_; rintro e w2 ⟨z1, rfl, hz1, hb2⟩; have HB2 := HB.keep (Kp.below (ts := fun _ => False) (own := q) hb2 27) (fun h => h) (fun h => h) (fun _ h => h.elim); have c7b := Blk.cell (i := 7) HB2.blk rfl; have z7b := Blk.frozen (i := 7) HB2.blk; have l7b := Blk.lt HB2.blk; simp only [Sl.enc])
    have hkb := Kp.below (ts := fun _ => False) (own := q) hb2 27
    have hP := HB2.putM z1 (othS oo.mx) hz1 (oth_u8 HB.ok.um) (by rw [oth_len]; exact hlm)
    have HW3 := (HW.keep (hkb.mono (fun q hq => hq.elim))).keep (hP.2.mono (fun q hq => .inr (by omega)))
    have HB3 := hP.1
    clear hP hkb c7b z7b l7b HB2 HB HW hb2 hz1 c7 c11 c0 hlm hlr
    simp only [show Value.slice z1.A z1.n z1.c = z1.enc from rfl]
    generalize w2.setCell ⟨gop, 7, none⟩ z1.enc = W3 at HB3 HW3 ⊢
    generalize tagged wr q 27 = q3 at HB3 HW3
    obtain ⟨oo3, HB3⟩ : ∃ oo3, CoB w own gop kd W3 q3 oo3 := ⟨_, HB3⟩
    have c11 : W3.cell? ⟨gop, 11, none⟩ = some (.slice oo3.rd.A oo3.rd.n oo3.rd.c) := Blk.cell (i := 11) HB3.blk rfl
    have hlr := HB3.ok.lr
    go_upto_region 9 with (go_at_call 50; refine Calls.mono (other_ok W3 q3 oo3.rd oo3.rx 27 HB3.ok.rd (by omega)) ?_; rintro e w4 ⟨z2, rfl, hz2, hb4⟩; have HB4 := HB3.keep (Kp.below (ts := fun _ => False) (own := q3) hb4 27) (fun h => h) (fun h => h) (fun _ h => h.elim); have c11b := Blk.cell (i := 11) HB4.blk rfl; have z11b := Blk.frozen (i := 11) HB4.blk; have l11b := Blk.lt HB4.blk; simp only [Sl.enc])
    have hkb := Kp.below (ts := fun _ => False) (own := q3) hb4 27
    have hP := HB4.putR z2 (othS oo3.rx) hz2 (oth_u8 HB3.ok.ur) (by rw [oth_len]; exact hlr)
    have HW := (HW3.keep (hkb.mono (fun q hq => hq.elim))).keep (hP.2.mono (fun q hq => .inr (by omega)))
    have HB := hP.1
    clear hP hkb c11b z11b l11b HB4 HB3 HW3 hb4 hz2 c11 hlr
    simp only [show Value.slice z2.A z2.n z2.c = z2.enc from rfl]
    generalize w4.setCell ⟨gop, 11, none⟩ z2.enc = W5 at HB HW ⊢
    generalize tagged W3 q3 27 = q5 at HB HW
    obtain ⟨oo5, HB⟩ : ∃ oo5, CoB w own gop kd W5 q5 oo5 := ⟨_, HB⟩
    have c7 : W5.cell? ⟨gop, 7, none⟩ = some (.slice oo5.md.A oo5.md.n oo5.md.c) := Blk.cell (i := 7) HB.blk rfl
    go_upto_region 10 with (fail)
    clear c7
    have k0 : W5.cell? ⟨gop, 0, none⟩ = some (.int .i64 oo5.kd) := Blk.cell (i := 0) HB.blk rfl
    have k7 : W5.cell? ⟨gop, 7, none⟩ = some (.slice oo5.md.A oo5.md.n oo5.md.c) := Blk.cell (i := 7) HB.blk rfl
    have k11 : W5.cell? ⟨gop, 11, none⟩ = some (.slice oo5.rd.A oo5.rd.n oo5.rd.c) := Blk.cell (i := 11) HB.blk rfl
    have HSM := Lib.hid (HX.sm (by omega) HM.out hF hE E (fun p hp => hp) (Nat.le_refl _))
    by_cases h5 : oo5.kd = 5
    ·
     have d5 : decide (oo5.kd = 5) = true := by simp [h5]
     have d5' : (oo5.kd == 5) = true := by simp [h5]
     clear h5
     have m3 : W5.cell? ⟨gop, 3, none⟩ = some (.int .i64 oo5.m0) := Blk.cell (i := 3) HB.blk rfl
     have m4 : W5.cell? ⟨gop, 4, none⟩ = some (.int .i64 oo5.m1) := Blk.cell (i := 4) HB.blk rfl
     have m5 : W5.cell? ⟨gop, 5, none⟩ = some (.string oo5.m2) := Blk.cell (i := 5) HB.blk rfl
     have m6 : W5.cell? ⟨gop, 6, none⟩ = some (.int .i64 oo5.m3) := Blk.cell (i := 6) HB.blk rfl
     have m7 : W5.cell? ⟨gop, 7, none⟩ = some (.slice oo5.md.A oo5.md.n oo5.md.c) := Blk.cell (i := 7) HB.blk rfl
     go_upto_region 12 with (go_at_call 51; refine Calls.mono (lend_ok W5 g 27 q5 s' _ oo5.md oo5.mx HW HSM.out HB.ok.md (.inr rfl) (by have := HB.ok.lm; omega)) ?_; rintro e w1 ⟨o1, G, E1, v1, rfl, hw1, he1, hel, hG1, hk1⟩)
     clear m3 m4 m5 m6 m7
     have HB1 := HB.keep hk1 (by (intro hq; first | omega | (dsimp only at hq; omega) | (dsimp only at hq; done))) (by (intro hq; first | omega | (dsimp only at hq; omega) | (dsimp only at hq; done))) (fun q hq => by unfold big; omega)
     have HE := Lib.hid (show (∀ p ∈ E1, p ∈ E) ∧ E1.length ≤ E.length from ⟨he1, hel⟩)
     clear he1 hel hk1 HB HW HSM k0 k7 k11
     have m3 : w1.cell? ⟨gop, 3, none⟩ = some (.int .i64 oo5.m0) := Blk.cell (i := 3) HB1.blk rfl
     have m4 : w1.cell? ⟨gop, 4, none⟩ = some (.int .i64 oo5.m1) := Blk.cell (i := 4) HB1.blk rfl
     have m5 : w1.cell? ⟨gop, 5, none⟩ = some (.string oo5.m2) := Blk.cell (i := 5) HB1.blk rfl
     have m6 : w1.cell? ⟨gop, 6, none⟩ = some (.int .i64 oo5.m3) := Blk.cell (i := 6) HB1.blk rfl
     have m7 : w1.cell? ⟨gop, 7, none⟩ = some (.slice oo5.md.A oo5.md.n oo5.md.c) := Blk.cell (i := 7) HB1.blk rfl
     go_upto_region 13 with (fail)
     clear m3 m4 m5 m6 m7
     obtain ⟨gm, hgm⟩ : ∃ gm, gm = w1.heap.size := ⟨_, rfl⟩
     have hk2 := Kp.below (ts := fun _ => False) (own := o1) (Below.alloc (Below.refl w1.heap.size w1) (Nat.le_refl _) (.cells #[.int .i64 oo5.m0, .int .i64 oo5.m1, .string oo5.m2, .int .i64 oo5.m3, .slice oo5.md.A oo5.md.n oo5.md.c] 35)) 24
     have HB2 := HB1.keep hk2 (fun hq => hq) (fun hq => hq) (fun q hq => hq.elim)
     have hw2 := hw1.keep (hk2.mono (fun q hq => hq.elim))
     have hG2 := Ow.keep hG1 hk2 (fun hq => hq)
     have HGM := Lib.hid (show Blk (w1.alloc (.cells #[.int .i64 oo5.m0, .int .i64 oo5.m1, .string oo5.m2, .int .i64 oo5.m3, .slice oo5.md.A oo5.md.n oo5.md.c] 35)) gm #[.int .i64 oo5.m0, .int .i64 oo5.m1, .string oo5.m2, .int .i64 oo5.m3, .slice oo5.md.A oo5.md.n oo5.md.c] 35 ∧ tagged w1 o1 24 gm = 24 from ⟨by rw [hgm]; exact blkNew rfl, by rw [hgm]; exact tagged_new (Nat.le_refl _)⟩)
     simp only [← hgm]
     clear hk2 HB1 hw1 hG1 hgm
     generalize w1.alloc (.cells #[.int .i64 oo5.m0, .int .i64 oo5.m1, .string oo5.m2, .int .i64 oo5.m3, .slice oo5.md.A oo5.md.n oo5.md.c] 35) = w2 at HB2 hw2 hG2 HGM ⊢
     generalize tagged w1 o1 24 = o2 at HB2 hw2 hG2 HGM
     obtain ⟨hdn, hdc, hdx⟩ := hand_rd hG2 HB2.ok.md
     obtain ⟨ga, gn, gc, hgh⟩ : ∃ a n c, handS G oo5.md = ⟨a, n, c⟩ := ⟨_, _, _, rfl⟩
     have HH := Lib.hid hgh
     rw [hgh] at hdn hdc hdx
     dsimp only at hdn hdc hdx
     subst hdn
     have hzn : oo5.mx.length = oo5.md.n := Kd_C_len HB2.ok.md.1
     have hgl : oo5.md.n ≤ G.n := by
      have h1 := (ow_len hG2).1
      rw [List.length_append] at h1
      omega
     have hgc : G.n ≤ G.c := (ow_len hG2).2.1
     have HDX := Lib.hid hdx
     have HWG := Lib.hid (show _ ∧ _ from ⟨hw2, hG2⟩)
     clear hgh hdx hzn hw2 hG2
     have cm : w2.cell? ⟨gm, 4, none⟩ = some (.slice oo5.md.A oo5.md.n oo5.md.c) := Blk.cell (i := 4) HGM.out.1 rfl
     have zm := Blk.frozen (i := 4) HGM.out.1
     have lm := Blk.lt HGM.out.1
     go_upto_region 14 with (go_at_call 52; refine (handed_ok G oo5.md _ hgl hgc).mono ?_; rintro e w' ⟨rfl, rfl⟩; rw [HH.out]; simp only [Sl.enc])
     clear cm zm lm
     have hk3 : Kp (fun q => q = 24) w2 o2 (w2.setCell ⟨gm, 4, none⟩ (.slice ga oo5.mx.length gc)) o2 := (Kp.refl _ _ _).set _ _ (fun k _ hn e => hn (by have e' : k = gm := e; rw [e']; exact HGM.out.2))
     have hb3 := Blk.set (i := 4) HGM.out.1 (.slice ga oo5.mx.length gc)
     have hdx3 := (show Rd u8K w2 o2 26 ⟨ga, oo5.mx.length, gc⟩ oo5.mx from ⟨HDX.out, hdc, fun a ha hn => by have h1 := hand_tag HWG.out.2 HB2.ok.md; rw [HH.out] at h1; exact h1 a ha hn⟩).keep u8K_K (by decide) hk3 (by decide)
     have HNE := HB2.ne HGM.out.1 (by decide)
     have HB3 : CoB w own gop kd (w2.setCell ⟨gm, 4, none⟩ (.slice ga oo5.mx.length gc)) o2 oo5 := HB2.setOther HNE HGM.out.2 _ _
     have HWG3 := Lib.hid (show _ ∧ _ ∧ _ from ⟨HWG.out.1.keep (hk3.mono (fun q hq => .inr (by omega))), Ow.keep HWG.out.2 hk3 (by (intro hq; first | omega | (dsimp only at hq; omega) | (dsimp only at hq; done))), hdx3⟩)
     have HGM3 := Lib.hid hb3
     clear hk3 hb3 hdx3 HB2 HWG HGM HNE HDX HH hgl hgc
     generalize w2.setCell ⟨gm, 4, none⟩ (.slice ga oo5.mx.length gc) = w3 at HB3 HWG3 HGM3 ⊢
     have HM3 : Hid (Blk w3 gm #[.int .i64 oo5.m0, .int .i64 oo5.m1, .string oo5.m2, .int .i64 oo5.m3, .slice ga oo5.mx.length gc] 35) := Lib.hid HGM3.out
     have m0 : w3.cell? ⟨gm, 0, none⟩ = some (.int .i64 oo5.m0) := Blk.cell (i := 0) HM3.out rfl
     have m1 : w3.cell? ⟨gm, 1, none⟩ = some (.int .i64 oo5.m1) := Blk.cell (i := 1) HM3.out rfl
     have m2 : w3.cell? ⟨gm, 2, none⟩ = some (.string oo5.m2) := Blk.cell (i := 2) HM3.out rfl
     have m3 : w3.cell? ⟨gm, 3, none⟩ = some (.int .i64 oo5.m3) := Blk.cell (i := 3) HM3.out rfl
     have m4 : w3.cell? ⟨gm, 4, none⟩ = some (.slice ga oo5.mx.length gc) := Blk.cell (i := 4) HM3.out rfl
     go_upto_region 15 with (go_at_call 15; refine Calls.mono (Encode_ok (⟨oo5.m0, oo5.m1, oo5.m2, oo5.m3, oo5.mx⟩ : S35) ga oo5.mx.length gc w3 HWG3.out.2.2.1 (by have := HB3.ok.lm; omega)) ?_; intro e w4 hpost; obtain ⟨z1, rfl, hz1, hb4⟩ := enc_post hpost o2 28; clear hpost)
     clear m0 m1 m2 m3 m4 HM3 HGM3
     have hk4 := Kp.below (ts := fun _ => False) (own := o2) hb4 28
     have HB4 := HB3.keep hk4 (fun hq => hq) (fun hq => hq) (fun q hq => hq.elim)
     have HWG4 := Lib.hid (show _ ∧ _ ∧ _ from ⟨HWG3.out.1.keep (hk4.mono (fun q hq => hq.elim)), Ow.keep HWG3.out.2.1 hk4 (fun hq => hq), hz1⟩)
     clear hk4 hb4 HB3 HWG3 hz1
     generalize tagged w3 o2 28 = o4 at HB4 HWG4
     have m3 : w4.cell? ⟨gop, 3, none⟩ = some (.int .i64 oo5.m0) := Blk.cell (i := 3) HB4.blk rfl
     have m4 : w4.cell? ⟨gop, 4, none⟩ = some (.int .i64 oo5.m1) := Blk.cell (i := 4) HB4.blk rfl
     have m5 : w4.cell? ⟨gop, 5, none⟩ = some (.string oo5.m2) := Blk.cell (i := 5) HB4.blk rfl
     have m6 : w4.cell? ⟨gop, 6, none⟩ = some (.int .i64 oo5.m3) := Blk.cell (i := 6) HB4.blk rfl
     have m7 : w4.cell? ⟨gop, 7, none⟩ = some (.slice oo5.md.A oo5.md.n oo5.md.c) := Blk.cell (i := 7) HB4.blk rfl
     go_upto_region 22 with (go_at_call 36; refine Calls.mono (refEncode_ok (⟨oo5.m0, oo5.m1, oo5.m2, oo5.m3, oo5.mx⟩ : S35) oo5.md.A oo5.md.n oo5.md.c w4 HB4.ok.md.1 (by have := HB4.ok.lm; have h9 : oo5.mx.length = oo5.md.n := Kd_C_len HB4.ok.md.1; omega) (by have := HB4.ok.ln; exact this)) ?_; intro e w5 hpost; obtain ⟨z2, rfl, hz2, hb5⟩ := enc_post hpost o4 29; clear hpost)
     clear m3 m4 m5 m6 m7
     have hk5 := Kp.below (ts := fun _ => False) (own := o4) hb5 29
     have HB5 := HB4.keep hk5 (fun hq => hq) (fun hq => hq) (fun q hq => hq.elim)
     have HWG5 := Lib.hid (show _ ∧ _ ∧ _ ∧ _ from ⟨HWG4.out.1.keep (hk5.mono (fun q hq => hq.elim)), Ow.keep HWG4.out.2.1 hk5 (fun hq => hq), Ow.keep HWG4.out.2.2 hk5 (fun hq => hq), hz2⟩)
     clear hk5 hb5 HB4 HWG4 hz2
     generalize tagged w4 o4 29 = o5 at HB5 HWG5
     have HYL : Hid ((encL (encS msgTab (fldM (⟨oo5.m0, oo5.m1, oo5.m2, oo5.m3, oo5.mx⟩ : S35)))).length ≤ 4000000) := Lib.hid (encM_len (⟨oo5.m0, oo5.m1, oo5.m2, oo5.m3, oo5.mx⟩ : S35) HB5.ok.um HB5.ok.lm)
     generalize encL (encS msgTab (fldM (⟨oo5.m0, oo5.m1, oo5.m2, oo5.m3, oo5.mx⟩ : S35))) = ys at HWG5 HYL
     generalize encC (encS msgTab (fldM (⟨oo5.m0, oo5.m1, oo5.m2, oo5.m3, oo5.mx⟩ : S35))) = code
     obtain ⟨z1A, z1n, z1c⟩ := z1
     obtain ⟨z2A, z2n, z2c⟩ := z2
     have HSM5 := Lib.hid (HX.sm (by omega) HM.out hF hE E1 HE.out.1 HE.out.2)
     simp only [Sl.enc]
     go_upto_region 23 with (go_at_call 54; refine Calls.mono (whole_ok w5 g 27 o5 _ _ G oo5.md oo5.mx HWG5.out.1 HSM5.out HB5.ok.md (.inr rfl) (by have := HB5.ok.lm; omega) HWG5.out.2.1) ?_; rintro e w6 ⟨rfl, o6, v6, hw6, hk6⟩)
     have HB6 := HB5.keep hk6 (by (intro hq; first | omega | (dsimp only at hq; omega) | (dsimp only at hq; done))) (by (intro hq; first | omega | (dsimp only at hq; omega) | (dsimp only at hq; done))) (fun q hq => by unfold big; omega)
     have hx6 := Ow.keep HWG5.out.2.2.1 hk6 (by (intro hq; first | omega | (dsimp only at hq; omega) | (dsimp only at hq; done)))
     have hy6 := Ow.keep HWG5.out.2.2.2 hk6 (by (intro hq; first | omega | (dsimp only at hq; omega) | (dsimp only at hq; done)))
     have e1 : (convert 22 9 (.slice z1A z1n z1c)).run Try.prog w6 = .ok (.string (strOfNums ys)) w6 := conv_str (ow_len hx6).2.2
     have e2 : (convert 22 9 (.slice z2A z2n z2c)).run Try.prog w6 = .ok (.string (strOfNums ys)) w6 := conv_str (ow_len hy6).2.2
     have HTK := Lib.hid (take_ok w6 g 28 o6 _ _ ⟨z1A, z1n, z1c⟩ ys hw6 hx6 (.inr (by decide)) (by have h9 := HX.dl; simp only [List.length_append]; omega) (by have h9 := HX.len; have h8 := HC.out; simp only [List.length_append]; omega) (by have := HYL.out; omega))
     clear HWG5 hw6 hk6 hx6 hy6 HB5 HSM5
     have hxl := HB6.ok.lm
     go_wp2_with (first
      | (go_at_call 55; refine (num_ok _ _).mono ?_; rintro e w' ⟨rfl, rfl⟩)
      | (go_at_call 56; refine Calls.mono HTK.out ?_; rintro e w7 ⟨rfl, o7, v70, v71, c, hw7, hk7⟩))
     simp only [List.append_assoc] at hw7
     exact ⟨⟨j + 1, o7, oo5, _, _, _, _, by omega, by go_num, HB6.keep hk7 (by (intro hq; first | omega | (dsimp only at hq; omega) | (dsimp only at hq; done))) (by (intro hq; first | omega | (dsimp only at hq; omega) | (dsimp only at hq; done))) (fun q hq => by unfold big; omega), hw7, HX.succ (z := ⟨z1A, z1n, z1c⟩) (c := c) (G := G) (xs := ys) (n := oo5.mx.length + 8) HE.out.1 HE.out.2 (by have := HYL.out; omega) (by omega)⟩, by simp [intOf]; omega⟩
    ·
     have d5 : decide (oo5.kd = 5) = false := by simp [h5]
     have d5' : (oo5.kd == 5) = false := by simp [h5]
     clear h5
     have m8 : W5.cell? ⟨gop, 8, none⟩ = some (.int .i64 oo5.r0) := Blk.cell (i := 8) HB.blk rfl
     have m9 : W5.cell? ⟨gop, 9, none⟩ = some (.int .i64 oo5.r1) := Blk.cell (i := 9) HB.blk rfl
     have m10 : W5.cell? ⟨gop, 10, none⟩ = some (.int .i64 oo5.r2) := Blk.cell (i := 10) HB.blk rfl
     have m11 : W5.cell? ⟨gop, 11, none⟩ = some (.slice oo5.rd.A oo5.rd.n oo5.rd.c) := Blk.cell (i := 11) HB.blk rfl
     go_upto_region 18 with (go_at_call 51; refine Calls.mono (lend_ok W5 g 27 q5 s' _ oo5.rd oo5.rx HW HSM.out HB.ok.rd (.inr rfl) (by have := HB.ok.lr; omega)) ?_; rintro e w1 ⟨o1, G, E1, v1, rfl, hw1, he1, hel, hG1, hk1⟩)
     clear m8 m9 m10 m11
     have HB1 := HB.keep hk1 (by (intro hq; first | omega | (dsimp only at hq; omega) | (dsimp only at hq; done))) (by (intro hq; first | omega | (dsimp only at hq; omega) | (dsimp only at hq; done))) (fun q hq => by unfold big; omega)
     have HE := Lib.hid (show (∀ p ∈ E1, p ∈ E) ∧ E1.length ≤ E.length from ⟨he1, hel⟩)
     clear he1 hel hk1 HB HW HSM k0 k7 k11
     have m8 : w1.cell? ⟨gop, 8, none⟩ = some (.int .i64 oo5.r0) := Blk.cell (i := 8) HB1.blk rfl
     have m9 : w1.cell? ⟨gop, 9, none⟩ = some (.int .i64 oo5.r1) := Blk.cell (i := 9) HB1.blk rfl
     have m10 : w1.cell? ⟨gop, 10, none⟩ = some (.int .i64 oo5.r2) := Blk.cell (i := 10) HB1.blk rfl
     have m11 : w1.cell? ⟨gop, 11, none⟩ = some (.slice oo5.rd.A oo5.rd.n oo5.rd.c) := Blk.cell (i := 11) HB1.blk rfl
     go_upto_region 19 with (fail)
     clear m8 m9 m10 m11
     obtain ⟨gm, hgm⟩ : ∃ gm, gm = w1.heap.size := ⟨_, rfl⟩
     have hk2 := Kp.below (ts := fun _ => False) (own := o1) (Below.alloc (Below.refl w1.heap.size w1) (Nat.le_refl _) (.cells #[.int .i64 oo5.r0, .int .i64 oo5.r1, .int .i64 oo5.r2, .slice oo5.rd.A oo5.rd.n oo5.rd.c] 44)) 24
     have HB2 := HB1.keep hk2 (fun hq => hq) (fun hq => hq) (fun q hq => hq.elim)
     have hw2 := hw1.keep (hk2.mono (fun q hq => hq.elim))
     have hG2 := Ow.keep hG1 hk2 (fun hq => hq)
     have HGM := Lib.hid (show Blk (w1.alloc (.cells #[.int .i64 oo5.r0, .int .i64 oo5.r1, .int .i64 oo5.r2, .slice oo5.rd.A oo5.rd.n oo5.rd.c] 44)) gm #[.int .i64 oo5.r0, .int .i64 oo5.r1, .int .i64 oo5.r2, .slice oo5.rd.A oo5.rd.n oo5.rd.c] 44 ∧ tagged w1 o1 24 gm = 24 from ⟨by rw [hgm]; exact blkNew rfl, by rw [hgm]; exact tagged_new (Nat.le_refl _)⟩)
     simp only [← hgm]
     clear hk2 HB1 hw1 hG1 hgm
     generalize w1.alloc (.cells #[.int .i64 oo5.r0, .int .i64 oo5.r1, .int .i64 oo5.r2, .slice oo5.rd.A oo5.rd.n oo5.rd.c] 44) = w2 at HB2 hw2 hG2 HGM ⊢
     generalize tagged w1 o1 24 = o2 at HB2 hw2 hG2 HGM
     obtain ⟨hdn, hdc, hdx⟩ := hand_rd hG2 HB2.ok.rd
     obtain ⟨ga, gn, gc, hgh⟩ : ∃ a n c, handS G oo5.rd = ⟨a, n, c⟩ := ⟨_, _, _, rfl⟩
     have HH := Lib.hid hgh
     rw [hgh] at hdn hdc hdx
     dsimp only at hdn hdc hdx
     subst hdn
     have hzn : oo5.rx.length = oo5.rd.n := Kd_C_len HB2.ok.rd.1
     have hgl : oo5.rd.n ≤ G.n := by
      have h1 := (ow_len hG2).1
      rw [List.length_append] at h1
      omega
     have hgc : G.n ≤ G.c := (ow_len hG2).2.1
     have HDX := Lib.hid hdx
     have HWG := Lib.hid (show _ ∧ _ from ⟨hw2, hG2⟩)
     clear hgh hdx hzn hw2 hG2
     have cm : w2.cell? ⟨gm, 3, none⟩ = some (.slice oo5.rd.A oo5.rd.n oo5.rd.c) := Blk.cell (i := 3) HGM.out.1 rfl
     have zm := Blk.frozen (i := 3) HGM.out.1
     have lm := Blk.lt HGM.out.1
     go_upto_region 20 with (go_at_call 52; refine (handed_ok G oo5.rd _ hgl hgc).mono ?_; rintro e w' ⟨rfl, rfl⟩; rw [HH.out]; simp only [Sl.enc])
     clear cm zm lm
     have hk3 : Kp (fun q => q = 24) w2 o2 (w2.setCell ⟨gm, 3, none⟩ (.slice ga oo5.rx.length gc)) o2 := (Kp.refl _ _ _).set _ _ (fun k _ hn e => hn (by have e' : k = gm := e; rw [e']; exact HGM.out.2))
     have hb3 := Blk.set (i := 3) HGM.out.1 (.slice ga oo5.rx.length gc)
     have hdx3 := (show Rd u8K w2 o2 26 ⟨ga, oo5.rx.length, gc⟩ oo5.rx from ⟨HDX.out, hdc, fun a ha hn => by have h1 := hand_tag HWG.out.2 HB2.ok.rd; rw [HH.out] at h1; exact h1 a ha hn⟩).keep u8K_K (by decide) hk3 (by decide)
     have HNE := HB2.ne HGM.out.1 (by decide)
     have HB3 : CoB w own gop kd (w2.setCell ⟨gm, 3, none⟩ (.slice ga oo5.rx.length gc)) o2 oo5 := HB2.setOther HNE HGM.out.2 _ _
     have HWG3 := Lib.hid (show _ ∧ _ ∧ _ from ⟨HWG.out.1.keep (hk3.mono (fun q hq => .inr (by omega))), Ow.keep HWG.out.2 hk3 (by (intro hq; first | omega | (dsimp only at hq; omega) | (dsimp only at hq; done))), hdx3⟩)
     have HGM3 := Lib.hid hb3
     clear hk3 hb3 hdx3 HB2 HWG HGM HNE HDX HH hgl hgc
     generalize w2.setCell ⟨gm, 3, none⟩ (.slice ga oo5.rx.length gc) = w3 at HB3 HWG3 HGM3 ⊢
     have HM3 : Hid (Blk w3 gm #[.int .i64 oo5.r0, .int .i64 oo5.r1, .int .i64 oo5.r2, .slice ga oo5.rx.length gc] 44) := Lib.hid HGM3.out
     have m0 : w3.cell? ⟨gm, 0, none⟩ = some (.int .i64 oo5.r0) := Blk.cell (i := 0) HM3.out rfl
     have m1 : w3.cell? ⟨gm, 1, none⟩ = some (.int .i64 oo5.r1) := Blk.cell (i := 1) HM3.out rfl
     have m2 : w3.cell? ⟨gm, 2, none⟩ = some (.int .i64 oo5.r2) := Blk.cell (i := 2) HM3.out rfl
     have m3 : w3.cell? ⟨gm, 3, none⟩ = some (.slice ga oo5.rx.length gc) := Blk.cell (i := 3) HM3.out rfl
     go_upto_region 21 with (go_at_call 16; refine Calls.mono (EncodeReply_ok (⟨oo5.r0, oo5.r1, oo5.r2, oo5.rx⟩ : S44) ga oo5.rx.length gc w3 HWG3.out.2.2.1 (by have := HB3.ok.lr; omega)) ?_; intro e w4 hpost; obtain ⟨z1, rfl, hz1, hb4⟩ := enc_post hpost o2 28; clear hpost)
     clear m0 m1 m2 m3 HM3 HGM3
     have hk4 := Kp.below (ts := fun _ => False) (own := o2) hb4 28
     have HB4 := HB3.keep hk4 (fun hq => hq) (fun hq => hq) (fun q hq => hq.elim)
     have HWG4 := Lib.hid (show _ ∧ _ ∧ _ from ⟨HWG3.out.1.keep (hk4.mono (fun q hq => hq.elim)), Ow.keep HWG3.out.2.1 hk4 (fun hq => hq), hz1⟩)
     clear hk4 hb4 HB3 HWG3 hz1
     generalize tagged w3 o2 28 = o4 at HB4 HWG4
     have m8 : w4.cell? ⟨gop, 8, none⟩ = some (.int .i64 oo5.r0) := Blk.cell (i := 8) HB4.blk rfl
     have m9 : w4.cell? ⟨gop, 9, none⟩ = some (.int .i64 oo5.r1) := Blk.cell (i := 9) HB4.blk rfl
     have m10 : w4.cell? ⟨gop, 10, none⟩ = some (.int .i64 oo5.r2) := Blk.cell (i := 10) HB4.blk rfl
     have m11 : w4.cell? ⟨gop, 11, none⟩ = some (.slice oo5.rd.A oo5.rd.n oo5.rd.c) := Blk.cell (i := 11) HB4.blk rfl
     go_upto_region 22 with (go_at_call 53; refine Calls.mono (refEncReply_ok (⟨oo5.r0, oo5.r1, oo5.r2, oo5.rx⟩ : S44) oo5.rd.A oo5.rd.n oo5.rd.c w4 HB4.ok.rd.1 (by have := HB4.ok.lr; have h9 : oo5.rx.length = oo5.rd.n := Kd_C_len HB4.ok.rd.1; omega) ) ?_; intro e w5 hpost; obtain ⟨z2, rfl, hz2, hb5⟩ := enc_post hpost o4 29; clear hpost)
     clear m8 m9 m10 m11
     have hk5 := Kp.below (ts := fun _ => False) (own := o4) hb5 29
     have HB5 := HB4.keep hk5 (fun hq => hq) (fun hq => hq) (fun q hq => hq.elim)
     have HWG5 := Lib.hid (show _ ∧ _ ∧ _ ∧ _ from ⟨HWG4.out.1.keep (hk5.mono (fun q hq => hq.elim)), Ow.keep HWG4.out.2.1 hk5 (fun hq => hq), Ow.keep HWG4.out.2.2 hk5 (fun hq => hq), hz2⟩)
     clear hk5 hb5 HB4 HWG4 hz2
     generalize tagged w4 o4 29 = o5 at HB5 HWG5
     have HYL : Hid ((encL (encS repTab (fldR (⟨oo5.r0, oo5.r1, oo5.r2, oo5.rx⟩ : S44)))).length ≤ 4000000) := Lib.hid (encR_len (⟨oo5.r0, oo5.r1, oo5.r2, oo5.rx⟩ : S44) HB5.ok.ur HB5.ok.lr)
     generalize encL (encS repTab (fldR (⟨oo5.r0, oo5.r1, oo5.r2, oo5.rx⟩ : S44))) = ys at HWG5 HYL
     generalize encC (encS repTab (fldR (⟨oo5.r0, oo5.r1, oo5.r2, oo5.rx⟩ : S44))) = code
     obtain ⟨z1A, z1n, z1c⟩ := z1
     obtain ⟨z2A, z2n, z2c⟩ := z2
     have HSM5 := Lib.hid (HX.sm (by omega) HM.out hF hE E1 HE.out.1 HE.out.2)
     simp only [Sl.enc]
     go_upto_region 23 with (go_at_call 54; refine Calls.mono (whole_ok w5 g 27 o5 _ _ G oo5.rd oo5.rx HWG5.out.1 HSM5.out HB5.ok.rd (.inr rfl) (by have := HB5.ok.lr; omega) HWG5.out.2.1) ?_; rintro e w6 ⟨rfl, o6, v6, hw6, hk6⟩)
     have HB6 := HB5.keep hk6 (by (intro hq; first | omega | (dsimp only at hq; omega) | (dsimp only at hq; done))) (by (intro hq; first | omega | (dsimp only at hq; omega) | (dsimp only at hq; done))) (fun q hq => by unfold big; omega)
     have hx6 := Ow.keep HWG5.out.2.2.1 hk6 (by (intro hq; first | omega | (dsimp only at hq; omega) | (dsimp only at hq; done)))
     have hy6 := Ow.keep HWG5.out.2.2.2 hk6 (by (intro hq; first | omega | (dsimp only at hq; omega) | (dsimp only at hq; done)))
     have e1 : (convert 22 9 (.slice z1A z1n z1c)).run Try.prog w6 = .ok (.string (strOfNums ys)) w6 := conv_str (ow_len hx6).2.2
     have e2 : (convert 22 9 (.slice z2A z2n z2c)).run Try.prog w6 = .ok (.string (strOfNums ys)) w6 := conv_str (ow_len hy6).2.2
     have HTK := Lib.hid (take_ok w6 g 28 o6 _ _ ⟨z1A, z1n, z1c⟩ ys hw6 hx6 (.inr (by decide)) (by have h9 := HX.dl; simp only [List.length_append]; omega) (by have h9 := HX.len; have h8 := HC.out; simp only [List.length_append]; omega) (by have := HYL.out; omega))
     clear HWG5 hw6 hk6 hx6 hy6 HB5 HSM5
     have hxl := HB6.ok.lr
     go_wp2_with (first
      | (go_at_call 55; refine (num_ok _ _).mono ?_; rintro e w' ⟨rfl, rfl⟩)
      | (go_at_call 56; refine Calls.mono HTK.out ?_; rintro e w7 ⟨rfl, o7, v70, v71, c, hw7, hk7⟩))
     simp only [List.append_assoc] at hw7
     exact ⟨⟨j + 1, o7, oo5, _, _, _, _, by omega, by go_num, HB6.keep hk7 (by (intro hq; first | omega | (dsimp only at hq; omega) | (dsimp only at hq; done))) (by (intro hq; first | omega | (dsimp only at hq; omega) | (dsimp only at hq; done))) (fun q hq => by unfold big; omega), hw7, HX.succ (z := ⟨z1A, z1n, z1c⟩) (c := c) (G := G) (xs := ys) (n := oo5.rx.length + 8) HE.out.1 HE.out.2 (by have := HYL.out; omega) (by omega)⟩, by simp [intOf]; omega⟩
   ·
    have d2 : decide ((j : Int) = 2) = false := by simp; omega
    have d2' : ((j : Int) == 2) = false := by simp; omega
    go_upto_region 10 with (fail)
    clear c7 c11 c0
    have k0 : wr.cell? ⟨gop, 0, none⟩ = some (.int .i64 oo.kd) := Blk.cell (i := 0) HB.blk rfl
    have k7 : wr.cell? ⟨gop, 7, none⟩ = some (.slice oo.md.A oo.md.n oo.md.c) := Blk.cell (i := 7) HB.blk rfl
    have k11 : wr.cell? ⟨gop, 11, none⟩ = some (.slice oo.rd.A oo.rd.n oo.rd.c) := Blk.cell (i := 11) HB.blk rfl
    have HSM := Lib.hid (HX.sm (by omega) HM.out hF hE E (fun p hp => hp) (Nat.le_refl _))
    by_cases h5 : oo.kd = 5
    ·
     have d5 : decide (oo.kd = 5) = true := by simp [h5]
     have d5' : (oo.kd == 5) = true := by simp [h5]
     clear h5
     have m3 : wr.cell? ⟨gop, 3, none⟩ = some (.int .i64 oo.m0) := Blk.cell (i := 3) HB.blk rfl
     have m4 : wr.cell? ⟨gop, 4, none⟩ = some (.int .i64 oo.m1) := Blk.cell (i := 4) HB.blk rfl
     have m5 : wr.cell? ⟨gop, 5, none⟩ = some (.string oo.m2) := Blk.cell (i := 5) HB.blk rfl
     have m6 : wr.cell? ⟨gop, 6, none⟩ = some (.int .i64 oo.m3) := Blk.cell (i := 6) HB.blk rfl
     have m7 : wr.cell? ⟨gop, 7, none⟩ = some (.slice oo.md.A oo.md.n oo.md.c) := Blk.cell (i := 7) HB.blk rfl
     go_upto_region 12 with (go_at_call 51; refine Calls.mono (lend_ok wr g 27 q s' _ oo.md oo.mx HW HSM.out HB.ok.md (.inr rfl) (by have := HB.ok.lm; omega)) ?_; rintro e w1 ⟨o1, G, E1, v1, rfl, hw1, he1, hel, hG1, hk1⟩)
     clear m3 m4 m5 m6 m7
     have HB1 := HB.keep hk1 (by (intro hq; first | omega | (dsimp only at hq; omega) | (dsimp only at hq; done))) (by (intro hq; first | omega | (dsimp only at hq; omega) | (dsimp only at hq; done))) (fun q hq => by unfold big; omega)
     have HE := Lib.hid (show (∀ p ∈ E1, p ∈ E) ∧ E1.length ≤ E.length from ⟨he1, hel⟩)
     clear he1 hel hk1 HB HW HSM k0 k7 k11
     have m3 : w1.cell? ⟨gop, 3, none⟩ = some (.int .i64 oo.m0) := Blk.cell (i := 3) HB1.blk rfl
     have m4 : w1.cell? ⟨gop, 4, none⟩ = some (.int .i64 oo.m1) := Blk.cell (i := 4) HB1.blk rfl
     have m5 : w1.cell? ⟨gop, 5, none⟩ = some (.string oo.m2) := Blk.cell (i := 5) HB1.blk rfl
     have m6 : w1.cell? ⟨gop, 6, none⟩ = some (.int .i64 oo.m3) := Blk.cell (i := 6) HB1.blk rfl
     have m7 : w1.cell? ⟨gop, 7, none⟩ = some (.slice oo.md.A oo.md.n oo.md.c) := Blk.cell (i := 7) HB1.blk rfl
     go_upto_region 13 with (fail)
     clear m3 m4 m5 m6 m7
     obtain ⟨gm, hgm⟩ : ∃ gm, gm = w1.heap.size := ⟨_, rfl⟩
     have hk2 := Kp.below (ts := fun _ => False) (own := o1) (Below.alloc (Below.refl w1.heap.size w1) (Nat.le_refl _) (.cells #[.int .i64 oo.m0, .int .i64 oo.m1, .string oo.m2, .int .i64 oo.m3, .slice oo.md.A oo.md.n oo.md.c] 35)) 24
     have HB2 := HB1.keep hk2 (fun hq => hq) (fun hq => hq) (fun q hq => hq.elim)
     have hw2 := hw1.keep (hk2.mono (fun q hq => hq.elim))
     have hG2 := Ow.keep hG1 hk2 (fun hq => hq)
     have HGM := Lib.hid (show Blk (w1.alloc (.cells #[.int .i64 oo.m0, .int .i64 oo.m1, .string oo.m2, .int .i64 oo.m3, .slice oo.md.A oo.md.n oo.md.c] 35)) gm #[.int .i64 oo.m0, .int .i64 oo.m1, .string oo.m2, .int .i64 oo.m3, .slice oo.md.A oo.md.n oo.md.c] 35 ∧ tagged w1 o1 24 gm = 24 from ⟨by rw [hgm]; exact blkNew rfl, by rw [hgm]; exact tagged_new (Nat.le_refl _)⟩)
     simp only [← hgm]
     clear hk2 HB1 hw1 hG1 hgm
     generalize w1.alloc (.cells #[.int .i64 oo.m0, .int .i64 oo.m1, .string oo.m2, .int .i64 oo.m3, .slice oo.md.A oo.md.n oo.md.c] 35) = w2 at HB2 hw2 hG2 HGM ⊢
     generalize tagged w1 o1 24 = o2 at HB2 hw2 hG2 HGM
     obtain ⟨hdn, hdc, hdx⟩ := hand_rd hG2 HB2.ok.md
     obtain ⟨ga, gn, gc, hgh⟩ : ∃ a n c, handS G oo.md = ⟨a, n, c⟩ := ⟨_, _, _, rfl⟩
     have HH := Lib.hid hgh
     rw [hgh] at hdn hdc hdx
     dsimp only at hdn hdc hdx
     subst hdn
     have hzn : oo.mx.length = oo.md.n := Kd_C_len HB2.ok.md.1
     have hgl : oo.md.n ≤ G.n := by
      have h1 := (ow_len hG2).1
      rw [List.length_append] at h1
      omega
     have hgc : G.n ≤ G.c := (ow_len hG2).2.1
     have HDX := Lib.hid hdx
     have HWG := Lib.hid (show _ ∧ _ from ⟨hw2, hG2⟩)
     clear hgh hdx hzn hw2 hG2
     have cm : w2.cell? ⟨gm, 4, none⟩ = some (.slice oo.md.A oo.md.n oo.md.c) := Blk.cell (i := 4) HGM.out.1 rfl
     have zm := Blk.frozen (i := 4) HGM.out.1
     have lm := Blk.lt HGM.out.1
     go_upto_region 14 with (go_at_call 52; refine (handed_ok G oo.md _ hgl hgc).mono ?_; rintro e w' ⟨rfl, rfl⟩; rw [HH.out]; simp only [Sl.enc])
     clear cm zm lm
     have hk3 : Kp (fun q => q = 24) w2 o2 (w2.setCell ⟨gm, 4, none⟩ (.slice ga oo.mx.length gc)) o2 := (Kp.refl _ _ _).set _ _ (fun k _ hn e => hn (by have e' : k = gm := e; rw [e']; exact HGM.out.2))
     have hb3 := Blk.set (i := 4) HGM.out.1 (.slice ga oo.mx.length gc)
     have hdx3 := (show Rd u8K w2 o2 26 ⟨ga, oo.mx.length, gc⟩ oo.mx from ⟨HDX.out, hdc, fun a ha hn => by have h1 := hand_tag HWG.out.2 HB2.ok.md; rw [HH.out] at h1; exact h1 a ha hn⟩).keep u8K_K (by decide) hk3 (by decide)
     have HNE := HB2.ne HGM.out.1 (by decide)
     have HB3 : CoB w own gop kd (w2.setCell ⟨gm, 4, none⟩ (.slice ga oo.mx.length gc)) o2 oo := HB2.setOther HNE HGM.out.2 _ _
     have HWG3 := Lib.hid (show _ ∧ _ ∧ _ from ⟨HWG.out.1.keep (hk3.mono (fun q hq => .inr (by omega))), Ow.keep HWG.out.2 hk3 (by (intro hq; first | omega | (dsimp only at hq; omega) | (dsimp only at hq; done))), hdx3⟩)
     have HGM3 := Lib.hid hb3
     clear hk3 hb3 hdx3 HB2 HWG HGM HNE HDX HH hgl hgc
     generalize w2.setCell ⟨gm, 4, none⟩ (.slice ga oo.mx.length gc) = w3 at HB3 HWG3 HGM3 ⊢
     have HM3 : Hid (Blk w3 gm #[.int .i64 oo.m0, .int .i64 oo.m1, .string oo.m2, .int .i64 oo.m3, .slice ga oo.mx.length gc] 35) := Lib.hid HGM3.out
     have m0 : w3.cell? ⟨gm, 0, none⟩ = some (.int .i64 oo.m0) := Blk.cell (i := 0) HM3.out rfl
     have m1 : w3.cell? ⟨gm, 1, none⟩ = some (.int .i64 oo.m1) := Blk.cell (i := 1) HM3.out rfl
     have m2 : w3.cell? ⟨gm, 2, none⟩ = some (.string oo.m2) := Blk.cell (i := 2) HM3.out rfl
     have m3 : w3.cell? ⟨gm, 3, none⟩ = some (.int .i64 oo.m3) := Blk.cell (i := 3) HM3.out rfl
     have m4 : w3.cell? ⟨gm, 4, none⟩ = some (.slice ga oo.mx.length gc) := Blk.cell (i := 4) HM3.out rfl
     go_upto_region 15 with (go_at_call 15; refine Calls.mono (Encode_ok (⟨oo.m0, oo.m1, oo.m2, oo.m3, oo.mx⟩ : S35) ga oo.mx.length gc w3 HWG3.out.2.2.1 (by have := HB3.ok.lm; omega)) ?_; intro e w4 hpost; obtain ⟨z1, rfl, hz1, hb4⟩ := enc_post hpost o2 28; clear hpost)
     clear m0 m1 m2 m3 m4 HM3 HGM3
     have hk4 := Kp.below (ts := fun _ => False) (own := o2) hb4 28
     have HB4 := HB3.keep hk4 (fun hq => hq) (fun hq => hq) (fun q hq => hq.elim)
     have HWG4 := Lib.hid (show _ ∧ _ ∧ _ from ⟨HWG3.out.1.keep (hk4.mono (fun q hq => hq.elim)), Ow.keep HWG3.out.2.1 hk4 (fun hq => hq), hz1⟩)
     clear hk4 hb4 HB3 HWG3 hz1
     generalize tagged w3 o2 28 = o4 at HB4 HWG4
     have m3 : w4.cell? ⟨gop, 3, none⟩ = some (.int .i64 oo.m0) := Blk.cell (i := 3) HB4.blk rfl
     have m4 : w4.cell? ⟨gop, 4, none⟩ = some (.int .i64 oo.m1) := Blk.cell (i := 4) HB4.blk rfl
     have m5 : w4.cell? ⟨gop, 5, none⟩ = some (.string oo.m2) := Blk.cell (i := 5) HB4.blk rfl
     have m6 : w4.cell? ⟨gop, 6, none⟩ = some (.int .i64 oo.m3) := Blk.cell (i := 6) HB4.blk rfl
     have m7 : w4.cell? ⟨gop, 7, none⟩ = some (.slice oo.md.A oo.md.n oo.md.c) := Blk.cell (i := 7) HB4.blk rfl
     go_upto_region 22 with (go_at_call 36; refine Calls.mono (refEncode_ok (⟨oo.m0, oo.m1, oo.m2, oo.m3, oo.mx⟩ : S35) oo.md.A oo.md.n oo.md.c w4 HB4.ok.md.1 (by have := HB4.ok.lm; have h9 : oo.mx.length = oo.md.n := Kd_C_len HB4.ok.md.1; omega) (by have := HB4.ok.ln; exact this)) ?_; intro e w5 hpost; obtain ⟨z2, rfl, hz2, hb5⟩ := enc_post hpost o4 29; clear hpost)
     clear m3 m4 m5 m6 m7
     have hk5 := Kp.below (ts := fun _ => False) (own := o4) hb5 29
     have HB5 := HB4.keep hk5 (fun hq => hq) (fun hq => hq) (fun q hq => hq.elim)
     have HWG5 := Lib.hid (show _ ∧ _ ∧ _ ∧ _ from ⟨HWG4.out.1.keep (hk5.mono (fun q hq => hq.elim)), Ow.keep HWG4.out.2.1 hk5 (fun hq => hq), Ow.keep HWG4.out.2.2 hk5 (fun hq => hq), hz2⟩)
     clear hk5 hb5 HB4 HWG4 hz2
     generalize tagged w4 o4 29 = o5 at HB5 HWG5
     have HYL : Hid ((encL (encS msgTab (fldM (⟨oo.m0, oo.m1, oo.m2, oo.m3, oo.mx⟩ : S35)))).length ≤ 4000000) := Lib.hid (encM_len (⟨oo.m0, oo.m1, oo.m2, oo.m3, oo.mx⟩ : S35) HB5.ok.um HB5.ok.lm)
     generalize encL (encS msgTab (fldM (⟨oo.m0, oo.m1, oo.m2, oo.m3, oo.mx⟩ : S35))) = ys at HWG5 HYL
     generalize encC (encS msgTab (fldM (⟨oo.m0, oo.m1, oo.m2, oo.m3, oo.mx⟩ : S35))) = code
     obtain ⟨z1A, z1n, z1c⟩ := z1
     obtain ⟨z2A, z2n, z2c⟩ := z2
     have HSM5 := Lib.hid (HX.sm (by omega) HM.out hF hE E1 HE.out.1 HE.out.2)
     simp only [Sl.enc]
     go_upto_region 23 with (go_at_call 54; refine Calls.mono (whole_ok w5 g 27 o5 _ _ G oo.md oo.mx HWG5.out.1 HSM5.out HB5.ok.md (.inr rfl) (by have := HB5.ok.lm; omega) HWG5.out.2.1) ?_; rintro e w6 ⟨rfl, o6, v6, hw6, hk6⟩)
     have HB6 := HB5.keep hk6 (by (intro hq; first | omega | (dsimp only at hq; omega) | (dsimp only at hq; done))) (by (intro hq; first | omega | (dsimp only at hq; omega) | (dsimp only at hq; done))) (fun q hq => by unfold big; omega)
     have hx6 := Ow.keep HWG5.out.2.2.1 hk6 (by (intro hq; first | omega | (dsimp only at hq; omega) | (dsimp only at hq; done)))
     have hy6 := Ow.keep HWG5.out.2.2.2 hk6 (by (intro hq; first | omega | (dsimp only at hq; omega) | (dsimp only at hq; done)))
     have e1 : (convert 22 9 (.slice z1A z1n z1c)).run Try.prog w6 = .ok (.string (strOfNums ys)) w6 := conv_str (ow_len hx6).2.2
     have e2 : (convert 22 9 (.slice z2A z2n z2c)).run Try.prog w6 = .ok (.string (strOfNums ys)) w6 := conv_str (ow_len hy6).2.2
     have HTK := Lib.hid (take_ok w6 g 28 o6 _ _ ⟨z1A, z1n, z1c⟩ ys hw6 hx6 (.inr (by decide)) (by have h9 := HX.dl; simp only [List.length_append]; omega) (by have h9 := HX.len; have h8 := HC.out; simp only [List.length_append]; omega) (by have := HYL.out; omega))
     clear HWG5 hw6 hk6 hx6 hy6 HB5 HSM5
     have hxl := HB6.ok.lm
     go_wp2_with (first
      | (go_at_call 55; refine (num_ok _ _).mono ?_; rintro e w' ⟨rfl, rfl⟩)
      | (go_at_call 56; refine Calls.mono HTK.out ?_; rintro e w7 ⟨rfl, o7, v70, v71, c, hw7, hk7⟩))
     simp only [List.append_assoc] at hw7
     exact ⟨⟨j + 1, o7, oo, _, _, _, _, by omega, by go_num, HB6.keep hk7 (by (intro hq; first | omega | (dsimp only at hq; omega) | (dsimp only at hq; done))) (by (intro hq; first | omega | (dsimp only at hq; omega) | (dsimp only at hq; done))) (fun q hq => by unfold big; omega), hw7, HX.succ (z := ⟨z1A, z1n, z1c⟩) (c := c) (G := G) (xs := ys) (n := oo.mx.length + 8) HE.out.1 HE.out.2 (by have := HYL.out; omega) (by omega)⟩, by simp [intOf]; omega⟩
    ·
     have d5 : decide (oo.kd = 5) = false := by simp [h5]
     have d5' : (oo.kd == 5) = false := by simp [h5]
     clear h5
     have m8 : wr.cell? ⟨gop, 8, none⟩ = some (.int .i64 oo.r0) := Blk.cell (i := 8) HB.blk rfl
     have m9 : wr.cell? ⟨gop, 9, none⟩ = some (.int .i64 oo.r1) := Blk.cell (i := 9) HB.blk rfl
     have m10 : wr.cell? ⟨gop, 10, none⟩ = some (.int .i64 oo.r2) := Blk.cell (i := 10) HB.blk rfl
     have m11 : wr.cell? ⟨gop, 11, none⟩ = some (.slice oo.rd.A oo.rd.n oo.rd.c) := Blk.cell (i := 11) HB.blk rfl
     go_upto_region 18 with (go_at_call 51; refine Calls.mono (lend_ok wr g 27 q s' _ oo.rd oo.rx HW HSM.out HB.ok.rd (.inr rfl) (by have := HB.ok.lr; omega)) ?_; rintro e w1 ⟨o1, G, E1, v1, rfl, hw1, he1, hel, hG1, hk1⟩)
     clear m8 m9 m10 m11
     have HB1 := HB.keep hk1 (by (intro hq; first | omega | (dsimp only at hq; omega) | (dsimp only at hq; done))) (by (intro hq; first | omega | (dsimp only at hq; omega) | (dsimp only at hq; done))) (fun q hq => by unfold big; omega)
     have HE := Lib.hid (show (∀ p ∈ E1, p ∈ E) ∧ E1.length ≤ E.length from ⟨he1, hel⟩)
     clear he1 hel hk1 HB HW HSM k0 k7 k11
     have m8 : w1.cell? ⟨gop, 8, none⟩ = some (.int .i64 oo.r0) := Blk.cell (i := 8) HB1.blk rfl
     have m9 : w1.cell? ⟨gop, 9, none⟩ = some (.int .i64 oo.r1) := Blk.cell (i := 9) HB1.blk rfl
     have m10 : w1.cell? ⟨gop, 10, none⟩ = some (.int .i64 oo.r2) := Blk.cell (i := 10) HB1.blk rfl
     have m11 : w1.cell? ⟨gop, 11, none⟩ = some (.slice oo.rd.A oo.rd.n oo.rd.c) := Blk.cell (i := 11) HB1.blk rfl
     go_upto_region 19 with (fail)
     clear m8 m9 m10 m11
     obtain ⟨gm, hgm⟩ : ∃ gm, gm = w1.heap.size := ⟨_, rfl⟩
     have hk2 := Kp.below (ts := fun _ => False) (own := o1) (Below.alloc (Below.refl w1.heap.size w1) (Nat.le_refl _) (.cells #[.int .i64 oo.r0, .int .i64 oo.r1, .int .i64 oo.r2, .slice oo.rd.A oo.rd.n oo.rd.c] 44)) 24
     have HB2 := HB1.keep hk2 (fun hq => hq) (fun hq => hq) (fun q hq => hq.elim)
     have hw2 := hw1.keep (hk2.mono (fun q hq => hq.elim))
     have hG2 := Ow.keep hG1 hk2 (fun hq => hq)
     have HGM := Lib.hid (show Blk (w1.alloc (.cells #[.int .i64 oo.r0, .int .i64 oo.r1, .int .i64 oo.r2, .slice oo.rd.A oo.rd.n oo.rd.c] 44)) gm #[.int .i64 oo.r0, .int .i64 oo.r1, .int .i64 oo.r2, .slice oo.rd.A oo.rd.n oo.rd.c] 44 ∧ tagged w1 o1 24 gm = 24 from ⟨by rw [hgm]; exact blkNew rfl, by rw [hgm]; exact tagged_new (Nat.le_refl _)⟩)
     simp only [← hgm]
     clear hk2 HB1 hw1 hG1 hgm
     generalize w1.alloc (.cells #[.int .i64 oo.r0, .int .i64 oo.r1, .int .i64 oo.r2, .slice oo.rd.A oo.rd.n oo.rd.c] 44) = w2 at HB2 hw2 hG2 HGM ⊢
     generalize tagged w1 o1 24 = o2 at HB2 hw2 hG2 HGM
     obtain ⟨hdn, hdc, hdx⟩ := hand_rd hG2 HB2.ok.rd
     obtain ⟨ga, gn, gc, hgh⟩ : ∃ a n c, handS G oo.rd = ⟨a, n, c⟩ := ⟨_, _, _, rfl⟩
     have HH := Lib.hid hgh
     rw [hgh] at hdn hdc hdx
     dsimp only at hdn hdc hdx
     subst hdn
     have hzn : oo.rx.length = oo.rd.n := Kd_C_len HB2.ok.rd.1
     have hgl : oo.rd.n ≤ G.n := by
      have h1 := (ow_len hG2).1
      rw [List.length_append] at h1
      omega
     have hgc : G.n ≤ G.c := (ow_len hG2).2.1
     have HDX := Lib.hid hdx
     have HWG := Lib.hid (show _ ∧ _ from ⟨hw2, hG2⟩)
     clear hgh hdx hzn hw2 hG2
     have cm : w2.cell? ⟨gm, 3, none⟩ = some (.slice oo.rd.A oo.rd.n oo.rd.c) := Blk.cell (i := 3) HGM.out.1 rfl
     have zm := Blk.frozen (i := 3) HGM.out.1
     have lm := Blk.lt HGM.out.1
     go_upto_region 20 with (go_at_call 52; refine (handed_ok G oo.rd _ hgl hgc).mono ?_; rintro e w' ⟨rfl, rfl⟩; rw [HH.out]; simp only [Sl.enc])
     clear cm zm lm
     have hk3 : Kp (fun q => q = 24) w2 o2 (w2.setCell ⟨gm, 3, none⟩ (.slice ga oo.rx.length gc)) o2 := (Kp.refl _ _ _).set _ _ (fun k _ hn e => hn (by have e' : k = gm := e; rw [e']; exact HGM.out.2))
     have hb3 := Blk.set (i := 3) HGM.out.1 (.slice ga oo.rx.length gc)
     have hdx3 := (show Rd u8K w2 o2 26 ⟨ga, oo.rx.length, gc⟩ oo.rx from ⟨HDX.out, hdc, fun a ha hn => by have h1 := hand_tag HWG.out.2 HB2.ok.rd; rw [HH.out] at h1; exact h1 a ha hn⟩).keep u8K_K (by decide) hk3 (by decide)
     have HNE := HB2.ne HGM.out.1 (by decide)
     have HB3 : CoB w own gop kd (w2.setCell ⟨gm, 3, none⟩ (.slice ga oo.rx.length gc)) o2 oo := HB2.setOther HNE HGM.out.2 _ _
     have HWG3 := Lib.hid (show _ ∧ _ ∧ _ from ⟨HWG.out.1.keep (hk3.mono (fun q hq => .inr (by omega))), Ow.keep HWG.out.2 hk3 (by (intro hq; first | omega | (dsimp only at hq; omega) | (dsimp only at hq; done))), hdx3⟩)
     have HGM3 := Lib.hid hb3
     clear hk3 hb3 hdx3 HB2 HWG HGM HNE HDX HH hgl hgc
     generalize w2.setCell ⟨gm, 3, none⟩ (.slice ga oo.rx.length gc) = w3 at HB3 HWG3 HGM3 ⊢
     have HM3 : Hid (Blk w3 gm #[.int .i64 oo.r0, .int .i64 oo.r1, .int .i64 oo.r2, .slice ga oo.rx.length gc] 44) := Lib.hid HGM3.out
     have m0 : w3.cell? ⟨gm, 0, none⟩ = some (.int .i64 oo.r0) := Blk.cell (i := 0) HM3.out rfl
     have m1 : w3.cell? ⟨gm, 1, none⟩ = some (.int .i64 oo.r1) := Blk.cell (i := 1) HM3.out rfl
     have m2 : w3.cell? ⟨gm, 2, none⟩ = some (.int .i64 oo.r2) := Blk.cell (i := 2) HM3.out rfl
     have m3 : w3.cell? ⟨gm, 3, none⟩ = some (.slice ga oo.rx.length gc) := Blk.cell (i := 3) HM3.out rfl
     go_upto_region 21 with (go_at_call 16; refine Calls.mono (EncodeReply_ok (⟨oo.r0, oo.r1, oo.r2, oo.rx⟩ : S44) ga oo.rx.length gc w3 HWG3.out.2.2.1 (by have := HB3.ok.lr; omega)) ?_; intro e w4 hpost; obtain ⟨z1, rfl, hz1, hb4⟩ := enc_post hpost o2 28; clear hpost)
     clear m0 m1 m2 m3 HM3 HGM3
     have hk4 := Kp.below (ts := fun _ => False) (own := o2) hb4 28
     have HB4 := HB3.keep hk4 (fun hq => hq) (fun hq => hq) (fun q hq => hq.elim)
     have HWG4 := Lib.hid (show _ ∧ _ ∧ _ from ⟨HWG3.out.1.keep (hk4.mono (fun q hq => hq.elim)), Ow.keep HWG3.out.2.1 hk4 (fun hq => hq), hz1⟩)
     clear hk4 hb4 HB3 HWG3 hz1
     generalize tagged w3 o2 28 = o4 at HB4 HWG4
     have m8 : w4.cell? ⟨gop, 8, none⟩ = some (.int .i64 oo.r0) := Blk.cell (i := 8) HB4.blk rfl
     have m9 : w4.cell? ⟨gop, 9, none⟩ = some (.int .i64 oo.r1) := Blk.cell (i := 9) HB4.blk rfl
     have m10 : w4.cell? ⟨gop, 10, none⟩ = some (.int .i64 oo.r2) := Blk.cell (i := 10) HB4.blk rfl
     have m11 : w4.cell? ⟨gop, 11, none⟩ = some (.slice oo.rd.A oo.rd.n oo.rd.c) := Blk.cell (i := 11) HB4.blk rfl
     go_upto_region 22 with (go_at_call 53; refine Calls.mono (refEncReply_ok (⟨oo.r0, oo.r1, oo.r2, oo.rx⟩ : S44) oo.rd.A oo.rd.n oo.rd.c w4 HB4.ok.rd.1 (by have := HB4.ok.lr; have h9 : oo.rx.length = oo.rd.n := Kd_C_len HB4.ok.rd.1; omega) ) ?_; intro e w5 hpost; obtain ⟨z2, rfl, hz2, hb5⟩ := enc_post hpost o4 29; clear hpost)
     clear m8 m9 m10 m11
     have hk5 := Kp.below (ts := fun _ => False) (own := o4) hb5 29
     have HB5 := HB4.keep hk5 (fun hq => hq) (fun hq => hq) (fun q hq => hq.elim)
     have HWG5 := Lib.hid (show _ ∧ _ ∧ _ ∧ _ from ⟨HWG4.out.1.keep (hk5.mono (fun q hq => hq.elim)), Ow.keep HWG4.out.2.1 hk5 (fun hq => hq), Ow.keep HWG4.out.2.2 hk5 (fun hq => hq), hz2⟩)
     clear hk5 hb5 HB4 HWG4 hz2
     generalize tagged w4 o4 29 = o5 at HB5 HWG5
     have HYL : Hid ((encL (encS repTab (fldR (⟨oo.r0, oo.r1, oo.r2, oo.rx⟩ : S44)))).length ≤ 4000000) := Lib.hid (encR_len (⟨oo.r0, oo.r1, oo.r2, oo.rx⟩ : S44) HB5.ok.ur HB5.ok.lr)
     generalize encL (encS repTab (fldR (⟨oo.r0, oo.r1, oo.r2, oo.rx⟩ : S44))) = ys at HWG5 HYL
     generalize encC (encS repTab (fldR (⟨oo.r0, oo.r1, oo.r2, oo.rx⟩ : S44))) = code
     obtain ⟨z1A, z1n, z1c⟩ := z1
     obtain ⟨z2A, z2n, z2c⟩ := z2
     have HSM5 := Lib.hid (HX.sm (by omega) HM.out hF hE E1 HE.out.1 HE.out.2)
     simp only [Sl.enc]
     go_upto_region 23 with (go_at_call 54; refine Calls.mono (whole_ok w5 g 27 o5 _ _ G oo.rd oo.rx HWG5.out.1 HSM5.out HB5.ok.rd (.inr rfl) (by have := HB5.ok.lr; omega) HWG5.out.2.1) ?_; rintro e w6 ⟨rfl, o6, v6, hw6, hk6⟩)
     have HB6 := HB5.keep hk6 (by (intro hq; first | omega | (dsimp only at hq; omega) | (dsimp only at hq; done))) (by (intro hq; first | omega | (dsimp only at hq; omega) | (dsimp only at hq; done))) (fun q hq => by unfold big; omega)
     have hx6 := Ow.keep HWG5.out.2.2.1 hk6 (by (intro hq; first | omega | (dsimp only at hq; omega) | (dsimp only at hq; done)))
     have hy6 := Ow.keep HWG5.out.2.2.2 hk6 (by (intro hq; first | omega | (dsimp only at hq; omega) | (dsimp only at hq; done)))
     have e1 : (convert 22 9 (.slice z1A z1n z1c)).run Try.prog w6 = .ok (.string (strOfNums ys)) w6 := conv_str (ow_len hx6).2.2
     have e2 : (convert 22 9 (.slice z2A z2n z2c)).run Try.prog w6 = .ok (.string (strOfNums ys)) w6 := conv_str (ow_len hy6).2.2
     have HTK := Lib.hid (take_ok w6 g 28 o6 _ _ ⟨z1A, z1n, z1c⟩ ys hw6 hx6 (.inr (by decide)) (by have h9 := HX.dl; simp only [List.length_append]; omega) (by have h9 := HX.len; have h8 := HC.out; simp only [List.length_append]; omega) (by have := HYL.out; omega))
     clear HWG5 hw6 hk6 hx6 hy6 HB5 HSM5
     have hxl := HB6.ok.lr
     go_wp2_with (first
      | (go_at_call 55; refine (num_ok _ _).mono ?_; rintro e w' ⟨rfl, rfl⟩)
      | (go_at_call 56; refine Calls.mono HTK.out ?_; rintro e w7 ⟨rfl, o7, v70, v71, c, hw7, hk7⟩))
     simp only [List.append_assoc] at hw7
     exact ⟨⟨j + 1, o7, oo, _, _, _, _, by omega, by go_num, HB6.keep hk7 (by (intro hq; first | omega | (dsimp only at hq; omega) | (dsimp only at hq; done))) (by (intro hq; first | omega | (dsimp only at hq; omega) | (dsimp only at hq; done))) (fun q hq => by unfold big; omega), hw7, HX.succ (z := ⟨z1A, z1n, z1c⟩) (c := c) (G := G) (xs := ys) (n := oo.rx.length + 8) HE.out.1 HE.out.2 (by have := HYL.out; omega) (by omega)⟩, by simp [intOf]; omega⟩
  ·
   obtain rfl : j = 3 := by omega
   have dl : decide (((3 : Nat) : Int) < 3) = false := by decide
   go_wp2_with fail
   go_ret
   exact ⟨rfl, q, s', E, D, cs, HW, HX, HB.kp⟩
end Go.Proofs.Ytpflenaoplblkaa.PaZ
end
