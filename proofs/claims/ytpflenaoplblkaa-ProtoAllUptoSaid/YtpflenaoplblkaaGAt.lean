import Derived.Test.YtpflenaoplblkaaGAs
section
namespace Go.Proofs.Ytpflenaoplblkaa.PcA
open Go.RowKit YtpflenaoplblkaaW.PrintWords YtpflenaoplblkaaW.PrintLast ProA ProB ProC ProI ProD ProG ProJ ProK ProL ProM ProN ProO ProP ProQ ProR ProU ProZ ProBb PaA
open ProH (msgTab repTab ba)
open ProS PaI PaJ PaK PaL
open PaM PaN PaO PaP PaQ PaR PaS PaT PaU PaV PaWa PaW PaXa PaX PaYa PaYb PaY PaZa PaZ PaD
set_option linter.unusedVariables false
set_option linter.unusedSimpArgs false
structure DeX (h : Gh) (i : Nat) (E D cs : List (Sl × List Int)) (T U : List (Sl × List RC)) : Prop where
 cs : cs.map (·.2) = D.map (·.2)
 dl : D.length ≤ 250000 * i
 dx : ∀ p ∈ D, p.2.length ≤ 100000000
 el : E.length ≤ h.E.length + i
 ex : ∀ p ∈ E, p ∈ h.E ∨ ((∀ x ∈ p.2, x = 251) ∧ p.2.length ≤ 100000000)
 tu : U.map (·.2) = T.map (·.2)
 tl : T.length ≤ i
 tx : ∀ p ∈ T, p.2.length ≤ 250000
 td : ∀ p ∈ T, ∀ x ∈ p.2, ∃ q ∈ D, q.1 = x.d
theorem DeX.len {h : Gh} {i : Nat} {E D cs : List (Sl × List Int)} {T U : List (Sl × List RC)} (H : DeX h i E D cs T U) : cs.length = D.length := by have := congrArg List.length H.cs; simpa using this
theorem DeX.ulen {h : Gh} {i : Nat} {E D cs : List (Sl × List Int)} {T U : List (Sl × List RC)} (H : DeX h i E D cs T U) : U.length = T.length := by have := congrArg List.length H.tu; simpa using this
theorem DeX.succ {h : Gh} {i n : Nat} {E E1 D cs Dn cn : List (Sl × List Int)} {T U : List (Sl × List RC)} {l c G : Sl} {ms : List RC} (H : DeX h i E D cs T U) (h1 : ∀ p ∈ E1, p ∈ E) (h2 : E1.length ≤ E.length) (hn : n ≤ 100000000)
  (hc : cn.map (·.2) = Dn.map (·.2)) (hl : Dn.length ≤ 250000) (hx : ∀ p ∈ Dn, p.2.length ≤ 100000000) (hm : ms.map (·.d) = Dn.map (·.1)) : DeX h (i + 1) (E1 ++ [(G, List.replicate n 251)]) (D ++ Dn) (cs ++ cn) (T ++ [(l, ms)]) (U ++ [(c, ms)]) := by
 have hml : ms.length = Dn.length := by have := congrArg List.length hm; simpa using this
 refine ⟨by rw [List.map_append, List.map_append, H.cs, hc], ?_, fun p hp => ?_, ?_, fun p hp => ?_, by rw [List.map_append, List.map_append, H.tu]; rfl, ?_, fun p hp => ?_, fun p hp x hx9 => ?_⟩
 · have := H.dl; rw [List.length_append]; omega
 ·
  rcases List.mem_append.1 hp with hp | hp
  · exact H.dx p hp
  · exact hx p hp
 · have := H.el; simp; omega
 ·
  rcases List.mem_append.1 hp with hp | hp
  · exact H.ex p (h1 p hp)
  · simp only [List.mem_singleton] at hp; subst hp; exact .inr ⟨fun x hx9 => List.eq_of_mem_replicate hx9, by simp only [List.length_replicate]; omega⟩
 · have := H.tl; simp; omega
 ·
  rcases List.mem_append.1 hp with hp | hp
  · exact H.tx p hp
  · simp only [List.mem_singleton] at hp; subst hp; dsimp only; omega
 ·
  rcases List.mem_append.1 hp with hp | hp
  ·
   obtain ⟨q, hq, he⟩ := H.td p hp x hx9
   exact ⟨q, List.mem_append_left _ hq, he⟩
  ·
   simp only [List.mem_singleton] at hp
   subst hp
   have h9 : x.d ∈ ms.map (·.d) := List.mem_map.2 ⟨x, hx9, rfl⟩
   rw [hm] at h9
   obtain ⟨q, hq, he⟩ := List.mem_map.1 h9
   exact ⟨q, List.mem_append_right _ hq, he⟩
theorem DeX.sm {h : Gh} {i : Nat} {E D cs : List (Sl × List Int)} {T U : List (Sl × List RC)} (H : DeX h i E D cs T U) (hi : i ≤ 1000) (hM : Sm h) (hF : h.F.length ≤ 900000000000) (hE : h.E.length ≤ 4000000000000) (hA : h.A.length ≤ 900000000000) (E1 : List (Sl × List Int)) (h1 : ∀ p ∈ E1, p ∈ E) (h2 : E1.length ≤ E.length) : Sm { h with E := E1, F := h.F ++ D, C := h.C ++ cs, A := h.A ++ T, V := h.V ++ U } := by
 have e1 := H.el
 have e2 := H.dl
 have e3 := H.tl
 refine ⟨by rw [List.length_append]; omega, hM.T, by simp; omega, hM.B, hM.M, hM.R, by dsimp only; omega, hM.L, fun p hp => ?_, hM.tx, fun p hp => ?_, hM.bx, hM.mx, hM.rx, fun p hp => ?_⟩
 ·
  rcases List.mem_append.1 hp with hp | hp
  · exact hM.fx p hp
  · have := H.dx p hp; omega
 ·
  rcases List.mem_append.1 hp with hp | hp
  · exact hM.ax p hp
  · have := H.tx p hp; omega
 ·
  rcases H.ex p (h1 p hp) with hp | hp
  · exact hM.ex p hp
  · omega
def DecP (w : World) (own : Nat → Nat) (g : Nat) (h : Gh) (w' : World) : Prop :=
  ∃ (own' : Nat → Nat) (s' : St) (E D cs : List (Sl × List Int)) (T U : List (Sl × List RC)), WInv w' g own' s' { h with E := E, F := h.F ++ D, C := h.C ++ cs, A := h.A ++ T, V := h.V ++ U } ∧ DeX h 3 E D cs T U ∧ Kp big w own w' own'
structure DcS (w : World) (own : Nat → Nat) (g : Nat) (s : St) (h : Gh) (l : Sl) (ms : List RC) (D : List (Sl × List Int)) (Dd : Sl) (xs : List Int) : Prop where
 wi : WInv w g own s h
 dd : Rd u8K w own 27 Dd xs
 l : Ow rcK 44 w own 25 l ms
 d : ∀ (i : Nat) (q : Sl × List Int), D[i]? = some q → Ow u8K 5 w own (32 * i + 1) q.1 q.2
theorem DcS.keep {w w' : World} {own own' : Nat → Nat} {g : Nat} {s : St} {h : Gh} {l : Sl} {ms : List RC} {D : List (Sl × List Int)} {Dd : Sl} {xs : List Int} {ts : Nat → Prop} (H : DcS w own g s h l ms D Dd xs) (hk : Kp ts w own w' own') (h0 : ¬ ts 27) (h1 : ¬ ts 25) (h2 : ∀ i, ¬ ts (32 * i + 1)) {s' : St} {h' : Gh} (hw : WInv w' g own' s' h') : DcS w' own' g s' h' l ms D Dd xs :=
  ⟨hw, H.dd.keep u8K_K (by decide) hk h0, H.l.keep hk h1, fun i q hq => (H.d i q hq).keep hk (h2 i)⟩
set_option maxHeartbeats 8000000 in
set_option maxRecDepth 100000 in
theorem decodes_ok (w : World) (g : Nat) (own : Nat → Nat) (s : St) (h : Gh) (Dd : Sl) (xs : List Int) (H : WInv w g own s h) (hm : Sm h) (hD : Rd u8K w own 27 Dd xs) (hu : u8s xs) (hx : xs.length ≤ 1100000) (hC : h.C.length = h.F.length) (hV : h.V.length = h.A.length) (hF : h.F.length ≤ 900000000000) (hE : h.E.length ≤ 4000000000000) (hA : h.A.length ≤ 900000000000) :
  Calls Try.prog 32 #[pt g, Dd.enc] w fun e w' => e = .returned (.bool true) ∧ DecP w own g h w' := by
 have HM := Lib.hid hm
 have HC := Lib.hid hC
 have HV := Lib.hid hV
 have HW := Lib.hid H
 have HD := Lib.hid hD
 have HU := Lib.hid hu
 clear hm hC H hD hu hV
 simp only [Sl.enc]
 go_enter Try.func32, Try.ntmps32
 go_wp2_with fail
 go_loopw [1, 5, 6, 7, 8, 9, 10, 11, 12, 13, 14, 15] (fun dv i _a _b _c _d _e _f _g _h _i _j wr => ∃ (j : Nat) (q : Nat → Nat) (z : Sl) (ys : List Int) (s' : St) (E D cs : List (Sl × List Int)) (T U : List (Sl × List RC)), j ≤ 3 ∧ i = .int .i64 (j : Int) ∧ dv = .slice z.A z.n z.c ∧ ys.length ≤ 1100000 ∧ Hid (u8s ys) ∧ Rd u8K wr q 27 z ys ∧ WInv wr g q s' { h with E := E, F := h.F ++ D, C := h.C ++ cs, A := h.A ++ T, V := h.V ++ U } ∧ DeX h j E D cs T U ∧ Kp big w own wr q) (fun _ i _ _ _ _ _ _ _ _ _ _ _ => 3 - (intOf i).toNat)
 case atStart =>
  have hw := HW.out
  refine ⟨0, own, Dd, xs, s, h.E, [], [], [], [], by omega, rfl, rfl, hx, HU, HD.out, ?_, ⟨rfl, by simp, by simp, by omega, fun p hp => .inl hp, rfl, by simp, by simp, by simp⟩, Kp.refl _ _ _⟩
  simp only [List.append_nil]
  exact hw
 case round =>
  clear HW HD HU
  obtain ⟨j, q, z, ys, s', E, D, cs, T, U, hj, rfl, rfl, hy, HU, HD, HW, HX, HK⟩ := hrel
  by_cases hlt : j < 3
  ·
   have dl : decide ((j : Int) < 3) = true := by simp; omega
   have HSM := Lib.hid (HX.sm (by omega) HM.out hF hE hA E (fun p hp => hp) (Nat.le_refl _))
   by_cases h2 : j = 2
   ·
    have d2 : decide ((j : Int) = 2) = true := by simp; omega
    have d2' : ((j : Int) == 2) = true := by simp; omega
    go_upto_region 6 with (go_at_call 50; refine Calls.mono (other_ok wr q z ys 27 HD (by omega)) ?_; rintro e w0 ⟨z1, rfl, hz1, hb2⟩)
    have hkb := Kp.below (ts := fun _ => False) (own := q) hb2 27
    have HWb := HW.keep (hkb.mono (fun q hq => hq.elim))
    have HKb := HK.trans (hkb.mono (ts' := big) (fun q hq => hq.elim))
    obtain ⟨yb, HUb, hyb, HDb⟩ : ∃ yb : List Int, Hid (u8s yb) ∧ yb.length ≤ 1100000 ∧ Rd u8K w0 (tagged wr q 27) 27 z1 yb := ⟨othS ys, Lib.hid (oth_u8 HU.out), by rw [oth_len]; exact hy, hz1⟩
    clear hz1 hb2 hkb HW HK HU hy HD
    generalize tagged wr q 27 = q5 at HWb HKb HDb
    have HW := HWb
    have HK := HKb
    have HU := HUb
    have hy := hyb
    have HD := HDb
    clear HWb HKb HUb hyb HDb
    simp only [Sl.enc]
    go_upto_region 7 with (go_at_call 51; refine Calls.mono (lend_ok w0 g 27 q5 s' _ z1 yb HW HSM.out HD (.inr rfl) (by omega)) ?_; rintro e w1 ⟨o1, G, E1, v1, rfl, hw1, he1, hel, hG1, hk1⟩)
    have HE := Lib.hid (show (∀ p ∈ E1, p ∈ E) ∧ E1.length ≤ E.length from ⟨he1, hel⟩)
    have hD1 := HD.keep u8K_K (by decide) hk1 (by (intro hq; first | omega | (dsimp only at hq; omega) | (dsimp only at hq; done)))
    have HK1 := Lib.hid (HK.trans (hk1.mono (fun q hq => by unfold big; omega)))
    have HW1 := Lib.hid (show _ ∧ _ ∧ _ from ⟨hw1, hG1, hD1⟩)
    clear he1 hel hk1 HD HW HSM HK hw1 hG1 hD1
    obtain ⟨hdn, hdc, hdx⟩ := hand_rd HW1.out.2.1 HW1.out.2.2
    obtain ⟨ga, gn, gc, hgh⟩ : ∃ a n c, handS G z1 = ⟨a, n, c⟩ := ⟨_, _, _, rfl⟩
    have HH := Lib.hid hgh
    rw [hgh] at hdn hdc hdx
    dsimp only at hdn hdc hdx
    subst hdn
    have hzn : yb.length = z1.n := Kd_C_len HW1.out.2.2.1
    have hgl : z1.n ≤ G.n := by
     have h1 := (ow_len HW1.out.2.1).1
     rw [List.length_append] at h1
     omega
    have hgc : G.n ≤ G.c := (ow_len HW1.out.2.1).2.1
    have HDX := Lib.hid hdx
    have HZN := Lib.hid hzn
    clear hgh hdx hzn
    go_upto_region 8 with (first
     | (go_at_call 52; refine (handed_ok G z1 _ hgl hgc).mono ?_; rintro e w' ⟨rfl, rfl⟩; rw [HH.out]; simp only [Sl.enc])
     | (go_at_call 17; refine Calls.mono (decode2_ok w1 gc yb ga HDX.out hdc HU.out (by omega)) ?_; rintro e w2 ⟨lv, gs, rfl, hR, hnm, hgk, hb2⟩))
    obtain ⟨rr, hrr⟩ : ∃ rr, rr = repS repTab yb := ⟨_, rfl⟩
    have hsz := rep_size (tab := repTab) (yb.length + 1) yb (by omega)
    simp only [← hrr] at hnm hsz ⊢
    obtain ⟨o2, l, ms, D2, rfl, hl2, hd2, hmd, hdd, hel2, hln2, ho2⟩ := gsplit44 hR hgk (fun k => if k < w1.heap.size then o1 k else 24)
    have hgl2 : gs.length = rr.1.length := by have := congrArg List.length hnm; simpa using this
    have hk2 : Kp (fun _ => False) w1 o1 w2 o2 := ⟨hb2.os, hb2.tape, hb2.output, hb2.size, fun k hk _ => ⟨by rw [ho2 k (.inl hk)]; exact if_pos hk, hb2.block k hk⟩⟩
    have HMS := Lib.hid (show ms.map (·.d) = D2.map (·.1) ∧ (∀ (i : Nat) (F : Flds), rr.1[i]? = some F → ∃ z, ms[i]? = some ⟨F.kind, F.n, F.m, z⟩ ∧ D2[i]? = some (z, F.data)) ∧ ms.length = rr.1.length ∧ D2.map (·.2) = rr.1.map (·.data) from ⟨hmd, fun i F hF9 => by
     have hi : i < gs.length := by rw [hgl2]; exact (List.getElem?_eq_some_iff.1 hF9).1
     obtain ⟨z9, hz1, hz2⟩ := hel2 i gs[i] (List.getElem?_eq_getElem hi)
     have hgi : gs[i].1 = repOf F := by
      have := congrArg (fun z => z[i]?) hnm
      simp only [List.getElem?_map, List.getElem?_eq_getElem hi, hF9, Option.map_some, Option.some.injEq] at this
      exact this
     rw [hgi] at hz1 hz2
     exact ⟨z9, hz1, hz2⟩, by omega, by
     rw [hdd]
     have : gs.map (·.1.f3) = (gs.map (·.1)).map (·.f3) := by rw [List.map_map]; rfl
     rw [this, hnm, List.map_map]
     rfl⟩)
    have HRF := Lib.hid (show rr.1.length ≤ 250000 ∧ ∀ F ∈ rr.1, F.data.length ≤ 100000000 from ⟨by omega, fun F hF9 => by have := hsz.2 F hF9; omega⟩)
    have HF2 := Lib.hid (show DcS w2 o2 g _ _ l ms D2 z1 yb from ⟨HW1.out.1.keep (hk2.mono (fun q hq => hq.elim)), HW1.out.2.2.keep u8K_K (by decide) hk2 (fun hq => hq), hl2, hd2⟩)
    have HG2 := Lib.hid (Ow.keep HW1.out.2.1 hk2 (fun hq => hq))
    have HK2 := Lib.hid (HK1.out.trans (hk2.mono (fun q hq => hq.elim)))
    have HRR := Lib.hid hrr
    clear hR hnm hgk hb2 hsz hrr hl2 hd2 hmd hdd hel2 hln2 ho2 hgl2 hk2 HW1 HK1 HDX HH hgl hgc hdc
    have HSM2 := Lib.hid (HX.sm (by omega) HM.out hF hE hA E1 HE.out.1 HE.out.2)
    go_upto_region 9 with (go_at_call 54; refine Calls.mono (whole_ok w2 g 27 o2 _ _ G z1 yb HF2.out.wi HSM2.out HF2.out.dd (.inr rfl) (by omega) HG2.out) ?_; rintro e w3 ⟨rfl, o3, v3, hw3, hk3⟩)
    have HF3 := Lib.hid (HF2.out.keep hk3 (by (intro hq; first | omega | (dsimp only at hq; omega) | (dsimp only at hq; done))) (by (intro hq; first | omega | (dsimp only at hq; omega) | (dsimp only at hq; done))) (fun i => by (intro hq; first | omega | (dsimp only at hq; omega) | (dsimp only at hq; done))) hw3)
    have HK3 := Lib.hid (HK2.out.trans (hk3.mono (fun q hq => by unfold big; omega)))
    clear HF2 HG2 HSM2 HK2 hw3 hk3
    have hdr : BytesAt w3 z1.A yb.length yb := by rw [HZN.out]; exact HF3.out.dd.1
    have hdrc : yb.length ≤ z1.c := by rw [HZN.out]; exact HF3.out.dd.2.1
    have hzz : Value.slice z1.A z1.n z1.c = .slice z1.A yb.length z1.c := by rw [HZN.out]
    have HDR := Lib.hid (refDecode_ok w3 z1.c yb z1.A hdr hdrc HU.out (by omega))
    rw [← hzz] at HDR
    clear hdr hdrc hzz
    go_upto_region 10 with (go_at_call 57; refine Calls.mono HDR.out ?_; rintro e w4 ⟨lv, rfl, hR4, hb4⟩)
    simp only [← HRR.out] at hR4 ⊢
    clear HRR HDR
    obtain ⟨r, at_, code⟩ := rr
    dsimp only at hR4 HMS HRF ⊢
    obtain ⟨lvA, lvc, hlv, _, hlC⟩ := Kd.R_reads hR4
    rw [List.length_map] at hlv hlC
    subst hlv
    have HLV := Lib.hid hlC
    obtain ⟨lA, ln, lc⟩ := l
    have hln : ln = r.length := by have h1 := (ow_len HF3.out.l).1; have h2 := HMS.out.2.2.1; dsimp only at h1; omega
    subst hln
    have hrn : r.length ≤ 250000 := HRF.out.1
    have hkb := Kp.below (ts := fun _ => False) (own := o3) hb4 24
    have HFD := Lib.hid (HF3.out.keep hkb (fun hq => hq) (fun hq => hq) (fun i hq => hq) (HF3.out.wi.keep (hkb.mono (fun q hq => hq.elim))))
    have HK4 := Lib.hid (HK3.out.trans (hkb.mono (fun q hq => hq.elim)))
    clear hR4 hlC hkb hb4 HF3 HK3
    generalize tagged w3 o3 24 = o4 at HFD HK4
    simp only [Sl.enc]
    have de : decide ((r.length : Int) = (r.length : Int)) = true := by simp
    go_wp2_with (go_at_call 55; refine (num_ok _ _).mono ?_; rintro e w' ⟨rfl, rfl⟩)
    clear de
    go_loopw [14, 15] (fun b i wr => ∃ (t : Nat), t ≤ r.length ∧ i = .int .i64 (t : Int) ∧ b = .bool true ∧ Hid (Below w4.heap.size w4 wr)) (fun _ i _ => r.length - (intOf i).toNat)
    case atStart => exact ⟨0, by omega, rfl, rfl, Lib.hid (Below.refl _ _)⟩
    case round =>
     rename_i wr
     obtain ⟨t, ht', rfl, rfl, HB⟩ := hrel
     by_cases htl : t < r.length
     ·
      have dt : decide ((t : Int) < (r.length : Int)) = true := by simp; omega
      have hti : (t : Int) < (r.length : Int) := by omega
      obtain ⟨F, hF9⟩ : ∃ F, r[t]? = some F := ⟨r[t], List.getElem?_eq_getElem htl⟩
      obtain ⟨z9, hz1, hz2⟩ := HMS.out.2.1 t F hF9
      have hmc : rcK.C wr lA r.length ms := Kd.C_below (ow_len HFD.out.l).2.2 HB.out
      have hdc2 : Kd.C k44 wr lvA r.length (r.map repOf) := Kd.C_below HLV.out HB.out
      have hzr := Rd.keep u8K_K (by decide) (ow_rd (HFD.out.d t _ hz2)) (Kp.below (ts := fun _ => False) (own := o4) HB.out 24) (fun hq => hq)
      dsimp only at hzr
      obtain ⟨zA, zn, zc⟩ := z9
      obtain rfl : F.data.length = zn := Kd_C_len hzr.1
      obtain ⟨ad, rfl, k0, k1, k2, k3⟩ := rc_at hmc t htl _ hz1
      obtain ⟨bd, Bd, dd, rfl, j0, j1, j2, j3, _, hrd⟩ := at_T44 hdc2 (t : Int) (by omega) (by omega)
      have hrdM : rd_T44 (r.map repOf) (t : Int) = repOf F := by
       unfold rd_T44
       rw [Int.toNat_natCast, List.getD_eq_getElem?_getD, List.getElem?_map, hF9]
       rfl
      rw [hrdM] at j0 j1 j2 j3 hrd
      rw [Int.toNat_natCast] at j0 j1 j2 j3
      simp only [Sl.enc] at k3
      dsimp only [repOf] at k0 k1 k2 j0 j1 j2 j3 hrd
      have HRA := Lib.hid hzr.1
      have HRB := Lib.hid hrd
      have HK5 := Lib.hid (And.intro k0 (And.intro k1 (And.intro k2 (And.intro k3 (And.intro j0 (And.intro j1 (And.intro j2 j3)))))))
      clear hrd hdc2 hmc hrdM k0 k1 k2 k3 j0 j1 j2 j3 hz1 hz2 hF9 hzr
      go_wp2_with fail
      refine start_ (n := 10) (S := fun w' => w'.cell? (ad.add (t * 4)) = some (.int .i64 F.kind) ∧ w'.cell? ⟨(ad.add (t * 4)).block, (ad.add (t * 4)).off + 1, none⟩ = some (.int .i64 F.n) ∧ w'.cell? ⟨(ad.add (t * 4)).block, (ad.add (t * 4)).off + 2, none⟩ = some (.int .i64 F.m) ∧ w'.cell? ⟨(ad.add (t * 4)).block, (ad.add (t * 4)).off + 3, none⟩ = some (.slice zA F.data.length zc) ∧ w'.cell? (bd.add (t * 4)) = some (.int .i64 F.kind) ∧ w'.cell? ⟨(bd.add (t * 4)).block, (bd.add (t * 4)).off + 1, none⟩ = some (.int .i64 F.n) ∧ w'.cell? ⟨(bd.add (t * 4)).block, (bd.add (t * 4)).off + 2, none⟩ = some (.int .i64 F.m) ∧ w'.cell? ⟨(bd.add (t * 4)).block, (bd.add (t * 4)).off + 3, none⟩ = some (.slice Bd F.data.length dd)) (ds := [8]) #[false, false, false, false, false, false, false, false, false, false] (by kernel_rfl) rfl rfl HK5.out (fun hHeld => ?_)
      refine pu_ (i := 0) (N := some 74) (v := ?_) (a' := ?_) rfl rfl (by kernel_rfl) (fun _ _ _ h => h) (by rfl) ?_ ?_ ?_
      rotate_left
      · (intro w'; go_simp; with_reducible rfl)
      rotate_left
      · (simp only [put_s, List.set, i64_w, i32_w]; rfl)
      refine pu_ (i := 1) (N := some 75) (v := ?_) (a' := ?_) rfl rfl (by kernel_rfl) (fun _ _ _ h => h) (by rfl) ?_ ?_ ?_
      rotate_left
      · (intro w'; go_simp; with_reducible rfl)
      rotate_left
      · (simp only [put_s, List.set, i64_w, i32_w]; rfl)
      refine pu_ (i := 2) (N := some 76) (v := ?_) (a' := ?_) rfl rfl (by kernel_rfl) (fun _ _ _ h => h) (by rfl) ?_ ?_ ?_
      rotate_left
      · (intro w'; go_simp; with_reducible rfl)
      rotate_left
      · (simp only [put_s, List.set, i64_w, i32_w]; rfl)
      refine tk_ (i := 3) (N := some 77) (v := ?_) (a' := ?_) rfl rfl (by kernel_rfl) (fun _ _ _ h => h) (by rfl) ?_ hHeld ?_ ?_
      rotate_left
      · (intro w' s0; go_simp; with_reducible rfl)
      rotate_left
      · (simp only [put_s, List.set, i64_w, i32_w]; rfl)
      refine pu_ (i := 4) (N := some 78) (v := ?_) (a' := ?_) rfl rfl (by kernel_rfl) (fun _ _ _ h => h) (by rfl) ?_ ?_ ?_
      rotate_left
      · (intro w'; go_simp; with_reducible rfl)
      rotate_left
      · (simp only [put_s, List.set, i64_w, i32_w]; rfl)
      refine pu_ (i := 5) (N := some 79) (v := ?_) (a' := ?_) rfl rfl (by kernel_rfl) (fun _ _ _ h => h) (by rfl) ?_ ?_ ?_
      rotate_left
      · (intro w'; go_simp; with_reducible rfl)
      rotate_left
      · (simp only [put_s, List.set, i64_w, i32_w]; rfl)
      refine pu_ (i := 6) (N := some 80) (v := ?_) (a' := ?_) rfl rfl (by kernel_rfl) (fun _ _ _ h => h) (by rfl) ?_ ?_ ?_
      rotate_left
      · (intro w'; go_simp; with_reducible rfl)
      rotate_left
      · (simp only [put_s, List.set, i64_w, i32_w]; rfl)
      refine tk_ (i := 7) (N := some 81) (v := ?_) (a' := ?_) rfl rfl (by kernel_rfl) (fun _ _ _ h => h) (by rfl) ?_ hHeld ?_ ?_
      rotate_left
      · (intro w' s0; go_simp; with_reducible rfl)
      rotate_left
      · (simp only [put_s, List.set, i64_w, i32_w]; rfl)
      refine la_ (i := 8) (N := some 82) rfl rfl (by kernel_rfl) (by decide) (fun K hK => ?_)
      refine goes_ Try.func18 (by kernel_rfl) rfl #[.agg #[.int .i64 F.kind, .int .i64 F.n, .int .i64 F.m, .slice zA F.data.length zc], .agg #[.int .i64 F.kind, .int .i64 F.n, .int .i64 F.m, .slice Bd F.data.length dd]] (by rfl) rfl rfl (by simp [Act.eval]) ?_
      refine Calls.mono (Go.Proofs.Ytpflenaoplblkaa.ProCa.sameReply_yes (repOf F) zA Bd F.data.length F.data.length zc dd _ (BytesAt.below (B := 0) HRA.out (Below.drew (Below.refl _ _))) (BytesAt.below (B := 0) HRB.out (Below.drew (Below.refl _ _)))) ?_
      rintro e w5 ⟨rfl, hb5⟩
      have HB5 := Lib.hid (HB.out.trans (((Below.drew (Below.refl wr.heap.size wr)).trans hb5).mono HB.out.size))
      clear hb5
      refine ⟨_, rfl, ?_⟩
      refine hK.out _ _ ?_
      clear hK K
      refine norm_ (a' := ?_) ?_ ?_
      rotate_left
      ·
       show Act.put _ (some 82) _ = _
       simp only [put_s, List.set, i64_w, i32_w]
       rfl
      refine pu_ (i := 9) (N := some 14) (v := ?_) (a' := ?_) rfl rfl (by kernel_rfl) (fun _ _ _ h => h) (by rfl) ?_ ?_ ?_
      rotate_left
      · (intro w'; go_simp; with_reducible rfl)
      rotate_left
      · (simp only [put_s, List.set, i64_w, i32_w]; rfl)
      refine done_ (by kernel_rfl) ?_
      go_wp2_with fail
      exact ⟨⟨t + 1, by omega, by go_num, rfl, HB5⟩, by simp [intOf]; omega⟩
     ·
      obtain rfl : t = r.length := by omega
      have dt : decide (((r.length : Nat) : Int) < (r.length : Int)) = false := by simp
      have hkb := Kp.below (ts := fun _ => False) (own := o4) HB.out 24
      have HF6 := Lib.hid (HFD.out.keep hkb (fun hq => hq) (fun hq => hq) (fun i hq => hq) (HFD.out.wi.keep (hkb.mono (fun q hq => hq.elim))))
      have HK6 := Lib.hid (HK4.out.trans (hkb.mono (fun q hq => hq.elim)))
      clear hkb HFD HK4 HB HLV
      generalize tagged w4 o4 24 = o6 at HF6 HK6
      have hdl : D2.length = r.length := by have h1 := congrArg List.length HMS.out.1; have h2 := HMS.out.2.2.1; simp only [List.length_map] at h1; omega
      have hml : ms.length = r.length := HMS.out.2.2.1
      have HDX : Hid (∀ q ∈ D2, q.2.length ≤ 100000000) := Lib.hid (fun q hq => by
       have h1 : q.2 ∈ D2.map (·.2) := List.mem_map.2 ⟨q, hq, rfl⟩
       rw [HMS.out.2.2.2] at h1
       obtain ⟨F, hF9, he⟩ := List.mem_map.1 h1
       rw [← he]
       exact HRF.out.2 F hF9)
      have hXD := HX.dl
      have hXT := HX.tl
      have hXL := HX.len
      have hXU := HX.ulen
      have hC9 := HC.out
      have hV9 := HV.out
      have HTM := Lib.hid (takeReplies_ok wr g o6 _ _ ⟨lA, r.length, lc⟩ ms D2 HF6.out.wi HF6.out.l HF6.out.d HMS.out.1 (fun q hq => by have := HDX.out q hq; omega) (by simp only [List.length_append]; omega) (by simp only [List.length_append]; omega) (by simp only [List.length_append]; omega) (by simp only [List.length_append]; omega) (by omega))
      have HDL := Lib.hid (show D2.length ≤ 250000 by omega)
      clear hdl hml hXD hXT hXL hXU hC9 hV9
      go_wp2_with (go_at_call 58; refine Calls.mono HTM.out ?_; rintro e w7 ⟨rfl, o7, v70, v71, v72, v73, cn, c, hcs, hw7, hk7⟩)
      simp only [List.append_assoc] at hw7
      exact ⟨⟨j + 1, o7, z1, yb, _, _, _, _, _, _, by omega, by go_num, rfl, by omega, HU, HF6.out.dd.keep u8K_K (by decide) hk7 (by (intro hq; first | omega | (dsimp only at hq; omega) | (dsimp only at hq; done))), hw7, HX.succ HE.out.1 HE.out.2 (by omega) hcs HDL.out HDX.out HMS.out.1, HK6.out.trans (hk7.mono (fun q hq => by unfold big; omega))⟩, by simp [intOf]; omega⟩
   ·
    have d2 : decide ((j : Int) = 2) = false := by simp; omega
    have d2' : ((j : Int) == 2) = false := by simp; omega
    go_upto_region 6 with (fail)
    go_upto_region 7 with (go_at_call 51; refine Calls.mono (lend_ok wr g 27 q s' _ z ys HW HSM.out HD (.inr rfl) (by omega)) ?_; rintro e w1 ⟨o1, G, E1, v1, rfl, hw1, he1, hel, hG1, hk1⟩)
    have HE := Lib.hid (show (∀ p ∈ E1, p ∈ E) ∧ E1.length ≤ E.length from ⟨he1, hel⟩)
    have hD1 := HD.keep u8K_K (by decide) hk1 (by (intro hq; first | omega | (dsimp only at hq; omega) | (dsimp only at hq; done)))
    have HK1 := Lib.hid (HK.trans (hk1.mono (fun q hq => by unfold big; omega)))
    have HW1 := Lib.hid (show _ ∧ _ ∧ _ from ⟨hw1, hG1, hD1⟩)
    clear he1 hel hk1 HD HW HSM HK hw1 hG1 hD1
    obtain ⟨hdn, hdc, hdx⟩ := hand_rd HW1.out.2.1 HW1.out.2.2
    obtain ⟨ga, gn, gc, hgh⟩ : ∃ a n c, handS G z = ⟨a, n, c⟩ := ⟨_, _, _, rfl⟩
    have HH := Lib.hid hgh
    rw [hgh] at hdn hdc hdx
    dsimp only at hdn hdc hdx
    subst hdn
    have hzn : ys.length = z.n := Kd_C_len HW1.out.2.2.1
    have hgl : z.n ≤ G.n := by
     have h1 := (ow_len HW1.out.2.1).1
     rw [List.length_append] at h1
     omega
    have hgc : G.n ≤ G.c := (ow_len HW1.out.2.1).2.1
    have HDX := Lib.hid hdx
    have HZN := Lib.hid hzn
    clear hgh hdx hzn
    go_upto_region 8 with (first
     | (go_at_call 52; refine (handed_ok G z _ hgl hgc).mono ?_; rintro e w' ⟨rfl, rfl⟩; rw [HH.out]; simp only [Sl.enc])
     | (go_at_call 17; refine Calls.mono (decode2_ok w1 gc ys ga HDX.out hdc HU.out (by omega)) ?_; rintro e w2 ⟨lv, gs, rfl, hR, hnm, hgk, hb2⟩))
    obtain ⟨rr, hrr⟩ : ∃ rr, rr = repS repTab ys := ⟨_, rfl⟩
    have hsz := rep_size (tab := repTab) (ys.length + 1) ys (by omega)
    simp only [← hrr] at hnm hsz ⊢
    obtain ⟨o2, l, ms, D2, rfl, hl2, hd2, hmd, hdd, hel2, hln2, ho2⟩ := gsplit44 hR hgk (fun k => if k < w1.heap.size then o1 k else 24)
    have hgl2 : gs.length = rr.1.length := by have := congrArg List.length hnm; simpa using this
    have hk2 : Kp (fun _ => False) w1 o1 w2 o2 := ⟨hb2.os, hb2.tape, hb2.output, hb2.size, fun k hk _ => ⟨by rw [ho2 k (.inl hk)]; exact if_pos hk, hb2.block k hk⟩⟩
    have HMS := Lib.hid (show ms.map (·.d) = D2.map (·.1) ∧ (∀ (i : Nat) (F : Flds), rr.1[i]? = some F → ∃ z, ms[i]? = some ⟨F.kind, F.n, F.m, z⟩ ∧ D2[i]? = some (z, F.data)) ∧ ms.length = rr.1.length ∧ D2.map (·.2) = rr.1.map (·.data) from ⟨hmd, fun i F hF9 => by
     have hi : i < gs.length := by rw [hgl2]; exact (List.getElem?_eq_some_iff.1 hF9).1
     obtain ⟨z9, hz1, hz2⟩ := hel2 i gs[i] (List.getElem?_eq_getElem hi)
     have hgi : gs[i].1 = repOf F := by
      have := congrArg (fun z => z[i]?) hnm
      simp only [List.getElem?_map, List.getElem?_eq_getElem hi, hF9, Option.map_some, Option.some.injEq] at this
      exact this
     rw [hgi] at hz1 hz2
     exact ⟨z9, hz1, hz2⟩, by omega, by
     rw [hdd]
     have : gs.map (·.1.f3) = (gs.map (·.1)).map (·.f3) := by rw [List.map_map]; rfl
     rw [this, hnm, List.map_map]
     rfl⟩)
    have HRF := Lib.hid (show rr.1.length ≤ 250000 ∧ ∀ F ∈ rr.1, F.data.length ≤ 100000000 from ⟨by omega, fun F hF9 => by have := hsz.2 F hF9; omega⟩)
    have HF2 := Lib.hid (show DcS w2 o2 g _ _ l ms D2 z ys from ⟨HW1.out.1.keep (hk2.mono (fun q hq => hq.elim)), HW1.out.2.2.keep u8K_K (by decide) hk2 (fun hq => hq), hl2, hd2⟩)
    have HG2 := Lib.hid (Ow.keep HW1.out.2.1 hk2 (fun hq => hq))
    have HK2 := Lib.hid (HK1.out.trans (hk2.mono (fun q hq => hq.elim)))
    have HRR := Lib.hid hrr
    clear hR hnm hgk hb2 hsz hrr hl2 hd2 hmd hdd hel2 hln2 ho2 hgl2 hk2 HW1 HK1 HDX HH hgl hgc hdc
    have HSM2 := Lib.hid (HX.sm (by omega) HM.out hF hE hA E1 HE.out.1 HE.out.2)
    go_upto_region 9 with (go_at_call 54; refine Calls.mono (whole_ok w2 g 27 o2 _ _ G z ys HF2.out.wi HSM2.out HF2.out.dd (.inr rfl) (by omega) HG2.out) ?_; rintro e w3 ⟨rfl, o3, v3, hw3, hk3⟩)
    have HF3 := Lib.hid (HF2.out.keep hk3 (by (intro hq; first | omega | (dsimp only at hq; omega) | (dsimp only at hq; done))) (by (intro hq; first | omega | (dsimp only at hq; omega) | (dsimp only at hq; done))) (fun i => by (intro hq; first | omega | (dsimp only at hq; omega) | (dsimp only at hq; done))) hw3)
    have HK3 := Lib.hid (HK2.out.trans (hk3.mono (fun q hq => by unfold big; omega)))
    clear HF2 HG2 HSM2 HK2 hw3 hk3
    have hdr : BytesAt w3 z.A ys.length ys := by rw [HZN.out]; exact HF3.out.dd.1
    have hdrc : ys.length ≤ z.c := by rw [HZN.out]; exact HF3.out.dd.2.1
    have hzz : Value.slice z.A z.n z.c = .slice z.A ys.length z.c := by rw [HZN.out]
    have HDR := Lib.hid (refDecode_ok w3 z.c ys z.A hdr hdrc HU.out (by omega))
    rw [← hzz] at HDR
    clear hdr hdrc hzz
    go_upto_region 10 with (go_at_call 57; refine Calls.mono HDR.out ?_; rintro e w4 ⟨lv, rfl, hR4, hb4⟩)
    simp only [← HRR.out] at hR4 ⊢
    clear HRR HDR
    obtain ⟨r, at_, code⟩ := rr
    dsimp only at hR4 HMS HRF ⊢
    obtain ⟨lvA, lvc, hlv, _, hlC⟩ := Kd.R_reads hR4
    rw [List.length_map] at hlv hlC
    subst hlv
    have HLV := Lib.hid hlC
    obtain ⟨lA, ln, lc⟩ := l
    have hln : ln = r.length := by have h1 := (ow_len HF3.out.l).1; have h2 := HMS.out.2.2.1; dsimp only at h1; omega
    subst hln
    have hrn : r.length ≤ 250000 := HRF.out.1
    have hkb := Kp.below (ts := fun _ => False) (own := o3) hb4 24
    have HFD := Lib.hid (HF3.out.keep hkb (fun hq => hq) (fun hq => hq) (fun i hq => hq) (HF3.out.wi.keep (hkb.mono (fun q hq => hq.elim))))
    have HK4 := Lib.hid (HK3.out.trans (hkb.mono (fun q hq => hq.elim)))
    clear hR4 hlC hkb hb4 HF3 HK3
    generalize tagged w3 o3 24 = o4 at HFD HK4
    simp only [Sl.enc]
    have de : decide ((r.length : Int) = (r.length : Int)) = true := by simp
    go_wp2_with (go_at_call 55; refine (num_ok _ _).mono ?_; rintro e w' ⟨rfl, rfl⟩)
    clear de
    go_loopw [14, 15] (fun b i wr => ∃ (t : Nat), t ≤ r.length ∧ i = .int .i64 (t : Int) ∧ b = .bool true ∧ Hid (Below w4.heap.size w4 wr)) (fun _ i _ => r.length - (intOf i).toNat)
    case atStart => exact ⟨0, by omega, rfl, rfl, Lib.hid (Below.refl _ _)⟩
    case round =>
     rename_i wr
     obtain ⟨t, ht', rfl, rfl, HB⟩ := hrel
     by_cases htl : t < r.length
     ·
      have dt : decide ((t : Int) < (r.length : Int)) = true := by simp; omega
      have hti : (t : Int) < (r.length : Int) := by omega
      obtain ⟨F, hF9⟩ : ∃ F, r[t]? = some F := ⟨r[t], List.getElem?_eq_getElem htl⟩
      obtain ⟨z9, hz1, hz2⟩ := HMS.out.2.1 t F hF9
      have hmc : rcK.C wr lA r.length ms := Kd.C_below (ow_len HFD.out.l).2.2 HB.out
      have hdc2 : Kd.C k44 wr lvA r.length (r.map repOf) := Kd.C_below HLV.out HB.out
      have hzr := Rd.keep u8K_K (by decide) (ow_rd (HFD.out.d t _ hz2)) (Kp.below (ts := fun _ => False) (own := o4) HB.out 24) (fun hq => hq)
      dsimp only at hzr
      obtain ⟨zA, zn, zc⟩ := z9
      obtain rfl : F.data.length = zn := Kd_C_len hzr.1
      obtain ⟨ad, rfl, k0, k1, k2, k3⟩ := rc_at hmc t htl _ hz1
      obtain ⟨bd, Bd, dd, rfl, j0, j1, j2, j3, _, hrd⟩ := at_T44 hdc2 (t : Int) (by omega) (by omega)
      have hrdM : rd_T44 (r.map repOf) (t : Int) = repOf F := by
       unfold rd_T44
       rw [Int.toNat_natCast, List.getD_eq_getElem?_getD, List.getElem?_map, hF9]
       rfl
      rw [hrdM] at j0 j1 j2 j3 hrd
      rw [Int.toNat_natCast] at j0 j1 j2 j3
      simp only [Sl.enc] at k3
      dsimp only [repOf] at k0 k1 k2 j0 j1 j2 j3 hrd
      have HRA := Lib.hid hzr.1
      have HRB := Lib.hid hrd
      have HK5 := Lib.hid (And.intro k0 (And.intro k1 (And.intro k2 (And.intro k3 (And.intro j0 (And.intro j1 (And.intro j2 j3)))))))
      clear hrd hdc2 hmc hrdM k0 k1 k2 k3 j0 j1 j2 j3 hz1 hz2 hF9 hzr
      go_wp2_with fail
      refine start_ (n := 10) (S := fun w' => w'.cell? (ad.add (t * 4)) = some (.int .i64 F.kind) ∧ w'.cell? ⟨(ad.add (t * 4)).block, (ad.add (t * 4)).off + 1, none⟩ = some (.int .i64 F.n) ∧ w'.cell? ⟨(ad.add (t * 4)).block, (ad.add (t * 4)).off + 2, none⟩ = some (.int .i64 F.m) ∧ w'.cell? ⟨(ad.add (t * 4)).block, (ad.add (t * 4)).off + 3, none⟩ = some (.slice zA F.data.length zc) ∧ w'.cell? (bd.add (t * 4)) = some (.int .i64 F.kind) ∧ w'.cell? ⟨(bd.add (t * 4)).block, (bd.add (t * 4)).off + 1, none⟩ = some (.int .i64 F.n) ∧ w'.cell? ⟨(bd.add (t * 4)).block, (bd.add (t * 4)).off + 2, none⟩ = some (.int .i64 F.m) ∧ w'.cell? ⟨(bd.add (t * 4)).block, (bd.add (t * 4)).off + 3, none⟩ = some (.slice Bd F.data.length dd)) (ds := [8]) #[false, false, false, false, false, false, false, false, false, false] (by kernel_rfl) rfl rfl HK5.out (fun hHeld => ?_)
      refine pu_ (i := 0) (N := some 74) (v := ?_) (a' := ?_) rfl rfl (by kernel_rfl) (fun _ _ _ h => h) (by rfl) ?_ ?_ ?_
      rotate_left
      · (intro w'; go_simp; with_reducible rfl)
      rotate_left
      · (simp only [put_s, List.set, i64_w, i32_w]; rfl)
      refine pu_ (i := 1) (N := some 75) (v := ?_) (a' := ?_) rfl rfl (by kernel_rfl) (fun _ _ _ h => h) (by rfl) ?_ ?_ ?_
      rotate_left
      · (intro w'; go_simp; with_reducible rfl)
      rotate_left
      · (simp only [put_s, List.set, i64_w, i32_w]; rfl)
      refine pu_ (i := 2) (N := some 76) (v := ?_) (a' := ?_) rfl rfl (by kernel_rfl) (fun _ _ _ h => h) (by rfl) ?_ ?_ ?_
      rotate_left
      · (intro w'; go_simp; with_reducible rfl)
      rotate_left
      · (simp only [put_s, List.set, i64_w, i32_w]; rfl)
      refine tk_ (i := 3) (N := some 77) (v := ?_) (a' := ?_) rfl rfl (by kernel_rfl) (fun _ _ _ h => h) (by rfl) ?_ hHeld ?_ ?_
      rotate_left
      · (intro w' s0; go_simp; with_reducible rfl)
      rotate_left
      · (simp only [put_s, List.set, i64_w, i32_w]; rfl)
      refine pu_ (i := 4) (N := some 78) (v := ?_) (a' := ?_) rfl rfl (by kernel_rfl) (fun _ _ _ h => h) (by rfl) ?_ ?_ ?_
      rotate_left
      · (intro w'; go_simp; with_reducible rfl)
      rotate_left
      · (simp only [put_s, List.set, i64_w, i32_w]; rfl)
      refine pu_ (i := 5) (N := some 79) (v := ?_) (a' := ?_) rfl rfl (by kernel_rfl) (fun _ _ _ h => h) (by rfl) ?_ ?_ ?_
      rotate_left
      · (intro w'; go_simp; with_reducible rfl)
      rotate_left
      · (simp only [put_s, List.set, i64_w, i32_w]; rfl)
      refine pu_ (i := 6) (N := some 80) (v := ?_) (a' := ?_) rfl rfl (by kernel_rfl) (fun _ _ _ h => h) (by rfl) ?_ ?_ ?_
      rotate_left
      · (intro w'; go_simp; with_reducible rfl)
      rotate_left
      · (simp only [put_s, List.set, i64_w, i32_w]; rfl)
      refine tk_ (i := 7) (N := some 81) (v := ?_) (a' := ?_) rfl rfl (by kernel_rfl) (fun _ _ _ h => h) (by rfl) ?_ hHeld ?_ ?_
      rotate_left
      · (intro w' s0; go_simp; with_reducible rfl)
      rotate_left
      · (simp only [put_s, List.set, i64_w, i32_w]; rfl)
      refine la_ (i := 8) (N := some 82) rfl rfl (by kernel_rfl) (by decide) (fun K hK => ?_)
      refine goes_ Try.func18 (by kernel_rfl) rfl #[.agg #[.int .i64 F.kind, .int .i64 F.n, .int .i64 F.m, .slice zA F.data.length zc], .agg #[.int .i64 F.kind, .int .i64 F.n, .int .i64 F.m, .slice Bd F.data.length dd]] (by rfl) rfl rfl (by simp [Act.eval]) ?_
      refine Calls.mono (Go.Proofs.Ytpflenaoplblkaa.ProCa.sameReply_yes (repOf F) zA Bd F.data.length F.data.length zc dd _ (BytesAt.below (B := 0) HRA.out (Below.drew (Below.refl _ _))) (BytesAt.below (B := 0) HRB.out (Below.drew (Below.refl _ _)))) ?_
      rintro e w5 ⟨rfl, hb5⟩
      have HB5 := Lib.hid (HB.out.trans (((Below.drew (Below.refl wr.heap.size wr)).trans hb5).mono HB.out.size))
      clear hb5
      refine ⟨_, rfl, ?_⟩
      refine hK.out _ _ ?_
      clear hK K
      refine norm_ (a' := ?_) ?_ ?_
      rotate_left
      ·
       show Act.put _ (some 82) _ = _
       simp only [put_s, List.set, i64_w, i32_w]
       rfl
      refine pu_ (i := 9) (N := some 14) (v := ?_) (a' := ?_) rfl rfl (by kernel_rfl) (fun _ _ _ h => h) (by rfl) ?_ ?_ ?_
      rotate_left
      · (intro w'; go_simp; with_reducible rfl)
      rotate_left
      · (simp only [put_s, List.set, i64_w, i32_w]; rfl)
      refine done_ (by kernel_rfl) ?_
      go_wp2_with fail
      exact ⟨⟨t + 1, by omega, by go_num, rfl, HB5⟩, by simp [intOf]; omega⟩
     ·
      obtain rfl : t = r.length := by omega
      have dt : decide (((r.length : Nat) : Int) < (r.length : Int)) = false := by simp
      have hkb := Kp.below (ts := fun _ => False) (own := o4) HB.out 24
      have HF6 := Lib.hid (HFD.out.keep hkb (fun hq => hq) (fun hq => hq) (fun i hq => hq) (HFD.out.wi.keep (hkb.mono (fun q hq => hq.elim))))
      have HK6 := Lib.hid (HK4.out.trans (hkb.mono (fun q hq => hq.elim)))
      clear hkb HFD HK4 HB HLV
      generalize tagged w4 o4 24 = o6 at HF6 HK6
      have hdl : D2.length = r.length := by have h1 := congrArg List.length HMS.out.1; have h2 := HMS.out.2.2.1; simp only [List.length_map] at h1; omega
      have hml : ms.length = r.length := HMS.out.2.2.1
      have HDX : Hid (∀ q ∈ D2, q.2.length ≤ 100000000) := Lib.hid (fun q hq => by
       have h1 : q.2 ∈ D2.map (·.2) := List.mem_map.2 ⟨q, hq, rfl⟩
       rw [HMS.out.2.2.2] at h1
       obtain ⟨F, hF9, he⟩ := List.mem_map.1 h1
       rw [← he]
       exact HRF.out.2 F hF9)
      have hXD := HX.dl
      have hXT := HX.tl
      have hXL := HX.len
      have hXU := HX.ulen
      have hC9 := HC.out
      have hV9 := HV.out
      have HTM := Lib.hid (takeReplies_ok wr g o6 _ _ ⟨lA, r.length, lc⟩ ms D2 HF6.out.wi HF6.out.l HF6.out.d HMS.out.1 (fun q hq => by have := HDX.out q hq; omega) (by simp only [List.length_append]; omega) (by simp only [List.length_append]; omega) (by simp only [List.length_append]; omega) (by simp only [List.length_append]; omega) (by omega))
      have HDL := Lib.hid (show D2.length ≤ 250000 by omega)
      clear hdl hml hXD hXT hXL hXU hC9 hV9
      go_wp2_with (go_at_call 58; refine Calls.mono HTM.out ?_; rintro e w7 ⟨rfl, o7, v70, v71, v72, v73, cn, c, hcs, hw7, hk7⟩)
      simp only [List.append_assoc] at hw7
      exact ⟨⟨j + 1, o7, z, ys, _, _, _, _, _, _, by omega, by go_num, rfl, by omega, HU, HF6.out.dd.keep u8K_K (by decide) hk7 (by (intro hq; first | omega | (dsimp only at hq; omega) | (dsimp only at hq; done))), hw7, HX.succ HE.out.1 HE.out.2 (by omega) hcs HDL.out HDX.out HMS.out.1, HK6.out.trans (hk7.mono (fun q hq => by unfold big; omega))⟩, by simp [intOf]; omega⟩
  ·
   obtain rfl : j = 3 := by omega
   have dl : decide (((3 : Nat) : Int) < 3) = false := by decide
   go_wp2_with fail
   go_ret
   exact ⟨rfl, q, s', E, D, cs, T, U, HW, HX, HK⟩
end Go.Proofs.Ytpflenaoplblkaa.PcA
end
section
namespace Go.Proofs.Ytpflenaoplblkaa.PcBa
open Go.RowKit YtpflenaoplblkaaW.PrintWords YtpflenaoplblkaaW.PrintLast ProA ProB ProC ProI ProD ProG ProJ ProK ProL ProM ProN ProO ProP ProQ ProR ProU ProZ ProBb PaA
open ProH (msgTab repTab ba)
open ProS PaI PaJ PaK PaL
open PaM PaN PaO PaP PaQ PaR PaS PaT PaU PaV PaWa PaW PaXa PaX PaYa PaYb PaY PaZa PaZ PaD PcA
set_option linter.unusedVariables false
set_option linter.unusedSimpArgs false
structure Gd (h : Gh) (n : Nat) : Prop where
 f : h.C.map (·.2) = h.F.map (·.2)
 t : h.U.map (·.2) = h.T.map (·.2)
 a : h.V.map (·.2) = h.A.map (·.2)
 dt : ∀ p ∈ h.T, ∀ x ∈ p.2, ∃ q ∈ h.F, q.1 = x.d
 da : ∀ p ∈ h.A, ∀ x ∈ p.2, ∃ q ∈ h.F, q.1 = x.d
 lk : Lk h
 sB : h.B.length + 4 * h.F.length ≤ 3200000 * n
 sM : h.M.length + 4 * h.T.length ≤ 4 * n
 sR : h.R.length + 4 * h.A.length ≤ 12 * n
 sE : h.E.length ≤ 3 * n
 sL : h.L.length ≤ n
 fx : ∀ p ∈ h.F, p.2.length ≤ 100000000
 tx : ∀ p ∈ h.T, p.2.length ≤ 500000
 ax : ∀ p ∈ h.A, p.2.length ≤ 500000
 bx : ∀ p ∈ h.B, p.2.length ≤ 2000000000000
 mx : ∀ p ∈ h.M, p.2.length ≤ 2000000000000
 rx : ∀ p ∈ h.R, p.2.length ≤ 2000000000000
 ex : ∀ p ∈ h.E, p.2.length ≤ 100000000
theorem Gd.sm {h : Gh} {n : Nat} (H : Gd h n) (hn : n ≤ 1100000) : Sm h := by
 obtain ⟨_, _, _, _, _, _, sB, sM, sR, sE, sL, fx, tx, ax, bx, mx, rx, ex⟩ := H
 exact ⟨by omega, by omega, by omega, by omega, by omega, by omega, by omega, by omega, fun p hp => by have := fx p hp; omega, fun p hp => by have := tx p hp; omega, fun p hp => by have := ax p hp; omega, bx, mx, rx, fun p hp => by have := ex p hp; omega⟩
theorem Gd.cl {h : Gh} {n : Nat} (H : Gd h n) : h.C.length = h.F.length := by have := congrArg List.length H.f; simpa using this
theorem Gd.ul {h : Gh} {n : Nat} (H : Gd h n) : h.U.length = h.T.length := by have := congrArg List.length H.t; simpa using this
theorem Gd.vl {h : Gh} {n : Nat} (H : Gd h n) : h.V.length = h.A.length := by have := congrArg List.length H.a; simpa using this
theorem Gd.same {h : Gh} {n : Nat} {w : World} {g : Nat} {own : Nat → Nat} {s : St} (H : Gd h n) (hW : WInv w g own s h) : Same w h := by
 have key : ∀ d : Sl, (∃ q ∈ h.F, q.1 = d) → ∃ bs, BytesAt w d.A d.n bs ∧ d.n ≤ d.c := by
  rintro d ⟨q, hq, rfl⟩
  obtain ⟨i, hi⟩ := List.getElem?_of_mem hq
  obtain ⟨l1, l2, l3⟩ := ow_len (hW.f0.2 i q hi)
  exact ⟨q.2, l3, l2⟩
 exact ⟨H.f, H.t, H.a, fun p hp x hx => key x.d (H.dt p hp x hx), fun p hp x hx => key x.d (H.da p hp x hx)⟩
theorem Gd.mono {h : Gh} {n m : Nat} (H : Gd h n) (hn : n ≤ m) : Gd h m := by
 obtain ⟨f, t, a, dt, da, lk, sB, sM, sR, sE, sL, fx, tx, ax, bx, mx, rx, ex⟩ := H
 exact ⟨f, t, a, dt, da, lk, by omega, by omega, by omega, by omega, by omega, fx, tx, ax, bx, mx, rx, ex⟩
theorem mem_app {α : Type} {P : α → Prop} {xs ys : List α} (h1 : ∀ x ∈ xs, P x) (h2 : ∀ x ∈ ys, P x) : ∀ x ∈ xs ++ ys, P x := fun x hx => (List.mem_append.1 hx).elim (h1 x) (h2 x)
theorem Lk.e {h : Gh} (H : Lk h) (E : List (Sl × List Int)) (hE : ∀ p ∈ E, p ∈ h.E ∨ ((∀ x ∈ p.2, x = 251) ∧ p.2.length ≤ 100000000)) : ∀ p ∈ E, ∀ x ∈ p.2, x = 251 := fun p hp x hx => by
 rcases hE p hp with h1 | h1
 · exact H.le p h1 x hx
 · exact h1.1 x hx
theorem Gd.fed {h : Gh} {n : Nat} (H : Gd h n) {L : List PG} {E D cs : List (Sl × List Int)} {l c : Sl} {ms : List MC} (hc : cs.map (·.2) = D.map (·.2)) (hm : ms.map (·.d) = D.map (·.1)) (hD : D.length ≤ 500000) (hx : ∀ p ∈ D, p.2.length ≤ 100000000) (hL : L.length = h.L.length) (hE : E.length ≤ h.E.length + 1) (hEx : ∀ p ∈ E, p ∈ h.E ∨ ((∀ x ∈ p.2, x = 251) ∧ p.2.length ≤ 100000000)) :
  Gd { h with L := L, E := E, F := h.F ++ D, C := h.C ++ cs, T := h.T ++ [(l, ms)], U := h.U ++ [(c, ms)] } (n + 1) := by
 have hml : ms.length = D.length := by have := congrArg List.length hm; simpa using this
 obtain ⟨f, t, a, dt, da, lk, sB, sM, sR, sE, sL, fx, tx, ax, bx, mx, rx, ex⟩ := H
 refine ⟨by simp only [List.map_append, f, hc], by simp only [List.map_append, t]; rfl, a, ?_, ?_, ⟨lk.b, lk.m, lk.r, lk.lb, lk.lm, lk.lr, Lk.e lk E hEx⟩, ?_, ?_, by dsimp only; omega, by dsimp only; omega, by dsimp only; omega, mem_app fx hx, mem_app tx (fun p hp => ?_), ax, bx, mx, rx, fun p hp => ?_⟩
 ·
  refine mem_app (fun p hp x hx9 => ?_) (fun p hp x hx9 => ?_)
  ·
   obtain ⟨q, hq, he⟩ := dt p hp x hx9
   exact ⟨q, List.mem_append_left _ hq, he⟩
  ·
   simp only [List.mem_singleton] at hp
   subst hp
   have h9 : x.d ∈ ms.map (·.d) := List.mem_map.2 ⟨x, hx9, rfl⟩
   rw [hm] at h9
   obtain ⟨q, hq, he⟩ := List.mem_map.1 h9
   exact ⟨q, List.mem_append_right _ hq, he⟩
 ·
  intro p hp x hx9
  obtain ⟨q, hq, he⟩ := da p hp x hx9
  exact ⟨q, List.mem_append_left _ hq, he⟩
 · dsimp only; rw [List.length_append]; omega
 · dsimp only; rw [List.length_append, List.length_singleton]; omega
 · simp only [List.mem_singleton] at hp; subst hp; dsimp only; omega
 ·
  rcases hEx p hp with h1 | h1
  · exact ex p h1
  · exact h1.2
theorem Gd.cod {h : Gh} {n : Nat} (H : Gd h n) {E D cs : List (Sl × List Int)} (X : CoX h 3 E D cs) : Gd { h with E := E, F := h.F ++ D, C := h.C ++ cs } (n + 1) := by
 obtain ⟨f, t, a, dt, da, lk, sB, sM, sR, sE, sL, fx, tx, ax, bx, mx, rx, ex⟩ := H
 obtain ⟨hc, hD, hx, hE, hEx⟩ := X
 refine ⟨by simp only [List.map_append, f, hc], t, a, ?_, ?_, ⟨lk.b, lk.m, lk.r, lk.lb, lk.lm, lk.lr, Lk.e lk E hEx⟩, ?_, by dsimp only; omega, by dsimp only; omega, by dsimp only; omega, by dsimp only; omega, mem_app fx hx, tx, ax, bx, mx, rx, fun p hp => ?_⟩
 ·
  intro p hp x hx9
  obtain ⟨q, hq, he⟩ := dt p hp x hx9
  exact ⟨q, List.mem_append_left _ hq, he⟩
 ·
  intro p hp x hx9
  obtain ⟨q, hq, he⟩ := da p hp x hx9
  exact ⟨q, List.mem_append_left _ hq, he⟩
 · dsimp only; rw [List.length_append]; omega
 ·
  rcases hEx p hp with h1 | h1
  · exact ex p h1
  · exact h1.2
theorem Gd.dec {h : Gh} {n : Nat} (H : Gd h n) {E D cs : List (Sl × List Int)} {T U : List (Sl × List RC)} (X : DeX h 3 E D cs T U) : Gd { h with E := E, F := h.F ++ D, C := h.C ++ cs, A := h.A ++ T, V := h.V ++ U } (n + 1) := by
 obtain ⟨f, t, a, dt, da, lk, sB, sM, sR, sE, sL, fx, tx, ax, bx, mx, rx, ex⟩ := H
 obtain ⟨hc, hD, hx, hE, hEx, htu, htl, htx, htd⟩ := X
 refine ⟨by simp only [List.map_append, f, hc], t, by simp only [List.map_append, a, htu], ?_, ?_, ⟨lk.b, lk.m, lk.r, lk.lb, lk.lm, lk.lr, Lk.e lk E hEx⟩, ?_, by dsimp only; omega, ?_, by dsimp only; omega, by dsimp only; omega, mem_app fx hx, tx, mem_app ax (fun p hp => by have := htx p hp; omega), bx, mx, rx, fun p hp => ?_⟩
 ·
  intro p hp x hx9
  obtain ⟨q, hq, he⟩ := dt p hp x hx9
  exact ⟨q, List.mem_append_left _ hq, he⟩
 ·
  refine mem_app (fun p hp x hx9 => ?_) (fun p hp x hx9 => ?_)
  ·
   obtain ⟨q, hq, he⟩ := da p hp x hx9
   exact ⟨q, List.mem_append_left _ hq, he⟩
  ·
   obtain ⟨q, hq, he⟩ := htd p hp x hx9
   exact ⟨q, List.mem_append_right _ hq, he⟩
 · dsimp only; rw [List.length_append]; omega
 · dsimp only; rw [List.length_append]; omega
 ·
  rcases hEx p hp with h1 | h1
  · exact ex p h1
  · exact h1.2
theorem Gd.new {h : Gh} {n : Nat} (H : Gd h n) (p : PG) : Gd { h with L := h.L ++ [p] } (n + 1) := by
 obtain ⟨f, t, a, dt, da, lk, sB, sM, sR, sE, sL, fx, tx, ax, bx, mx, rx, ex⟩ := H
 exact ⟨f, t, a, dt, da, ⟨lk.b, lk.m, lk.r, lk.lb, lk.lm, lk.lr, lk.le⟩, by dsimp only; omega, by dsimp only; omega, by dsimp only; omega, by dsimp only; omega, by simp; omega, fx, tx, ax, bx, mx, rx, ex⟩
theorem Gd.settled {h h' : Gh} {n : Nat} (H : Gd h n) (hlk : Lk h') (he : h'.F = [] ∧ h'.C = [] ∧ h'.T = [] ∧ h'.U = [] ∧ h'.A = [] ∧ h'.V = []) (hL : h'.L = h.L) (hE : h'.E = h.E) (hl : h'.B.length = h.B.length + 4 * h.F.length ∧ h'.M.length = h.M.length + 4 * h.T.length ∧ h'.R.length = h.R.length + 4 * h.A.length) (hx : (∀ p ∈ h'.B, p.2.length ≤ 2000000000000) ∧ (∀ p ∈ h'.M, p.2.length ≤ 2000000000000) ∧ (∀ p ∈ h'.R, p.2.length ≤ 2000000000000)) : Gd h' n := by
 obtain ⟨f, t, a, dt, da, lk, sB, sM, sR, sE, sL, fx, tx, ax, bx, mx, rx, ex⟩ := H
 obtain ⟨e1, e2, e3, e4, e5, e6⟩ := he
 exact ⟨by rw [e1, e2]; try rfl, by rw [e3, e4]; try rfl, by rw [e5, e6]; try rfl, by rw [e3]; simp, by rw [e5]; simp, hlk, by rw [e1, hl.1]; simp; omega, by rw [e3, hl.2.1]; simp; omega, by rw [e5, hl.2.2]; simp; omega, by rw [hE]; exact sE, by rw [hL]; exact sL, by rw [e1]; simp, by rw [e3]; simp, by rw [e5]; simp, hx.1, hx.2.1, hx.2.2, by rw [hE]; exact ex⟩
set_option maxRecDepth 100000 in
theorem rnew_ok (w : World) : Calls Try.prog 30 #[] w fun e w' => e = .returned (pt w.heap.size) ∧ w.alloc (.cells #[.slice none 0 0, .bool false] 106) = w' := by
 go_enter Try.func30, Try.ntmps30
 go_wp2_with fail
 go_ret
 exact ⟨rfl, rfl⟩
theorem rpoisoned_ok (w : World) (g : Nat) (v : Value) (b : Bool) (h : Blk w g #[v, .bool b] 106) : Calls Try.prog 34 #[pt g] w fun e w' => e = .returned (.bool b) ∧ w = w' := by
 have h1 : w.cell? ⟨g, 1, none⟩ = some (.bool b) := Blk.cell (i := 1) h rfl
 go_enter Try.func34, Try.ntmps34
 go_wp2_with fail
 go_ret
 exact ⟨rfl, rfl⟩
theorem rwaiting_ok (w : World) (g : Nat) (A : Option Addr) (n c : Nat) (x : Value) (h : Blk w g #[.slice A n c, x] 106) : Calls Try.prog 35 #[pt g] w fun e w' => e = .returned (.int .i64 n) ∧ w = w' := by
 have h1 : w.cell? ⟨g, 0, none⟩ = some (.slice A n c) := Blk.cell (i := 0) h rfl
 go_enter Try.func35, Try.ntmps35
 go_wp2_with fail
 go_ret
 exact ⟨rfl, rfl⟩
theorem info81 : (Try.prog.info? 81).map (fun i => (i.zero, i.size, i.bytes)) = some (some (.agg #[.pointer none, .pointer none]), 2, 16) := by kernel_rfl
end Go.Proofs.Ytpflenaoplblkaa.PcBa
end
section
namespace Go.Proofs.Ytpflenaoplblkaa.PcB
open Go.RowKit YtpflenaoplblkaaW.PrintWords YtpflenaoplblkaaW.PrintLast ProA ProB ProC ProI ProD ProG ProJ ProK ProL ProM ProN ProO ProP ProQ ProR ProU ProZ ProBb PaA
open ProH (msgTab repTab ba)
open ProS PaI PaJ PaK PaL
open PaM PaN PaO PaP PaQ PaR PaS PaT PaU PaV PaWa PaW PaXa PaX PaYa PaYb PaY PaZa PaZ PaD PcA PcBa
set_option linter.unusedVariables false
set_option linter.unusedSimpArgs false
open ProX (pick_ok PickPost)
def StepP (w : World) (own : Nat → Nat) (g n : Nat) (w' : World) : Prop := ∃ (own' : Nat → Nat) (s' : St) (h' : Gh), WInv w' g own' s' h' ∧ Gd h' (n + 1) ∧ Kp big w own w' own'
set_option maxHeartbeats 8000000 in
set_option maxRecDepth 100000 in
theorem step_ok (w : World) (g n : Nat) (own : Nat → Nat) (s : St) (h : Gh) (o : OpS) (H : WInv w g own s h) (hg : Gd h n) (hn : n + 1 ≤ 1100000) (ho : OpOk w own o) (hpp : -9223372036854775808 ≤ o.pp ∧ o.pp ≤ 9223372036854775807) :
  Calls Try.prog 20 #[pt g, .agg o.cells] w fun e w' => e = .returned (.bool true) ∧ StepP w own g n w' := by
 have HG := Lib.hid hg
 have HM := Lib.hid (hg.sm (by omega))
 have HI := Lib.hid H
 have HO := Lib.hid ho
 have hLl := hg.sL
 have hEl := hg.sE
 have hFl : h.F.length ≤ 900000000000 := by have := hg.sB; omega
 have hAl : h.A.length ≤ 900000000000 := by have := hg.sR; omega
 have hTl : h.U.length ≤ 1000000000000 := by have h1 := hg.ul; have h2 := hg.sM; omega
 clear hg H ho
 unfold OpS.cells
 simp only [Sl.enc]
 go_enter Try.func20, Try.ntmps20
 go_upto_region 1 with (fail)
 obtain ⟨gop, hgp⟩ : ∃ gop, gop = w.heap.size := ⟨_, rfl⟩
 have hk0 := Kp.below (ts := fun _ => False) (own := own) (Below.alloc (Below.refl w.heap.size w) (Nat.le_refl _) (.cells o.cells 64)) 24
 have HW := Lib.hid (HI.out.keep (hk0.mono (fun q hq => hq.elim)))
 have HB := Lib.hid (show CoB w own gop o.kd (w.alloc (.cells o.cells 64)) (tagged w own 24) o from ⟨by rw [hgp]; exact blkNew rfl, by rw [hgp]; exact tagged_new (Nat.le_refl _), HO.out.keep hk0 (fun hq => hq), rfl, hk0.mono (fun q hq => hq.elim)⟩)
 simp only [← hgp]
 clear hk0 hgp HI HO
 simp only [show ∀ W : World, W.alloc (.cells #[.int .i64 o.kd, .int .i64 o.pp, .slice o.d.A o.d.n o.d.c, .int .i64 o.m0, .int .i64 o.m1, .string o.m2, .int .i64 o.m3, .slice o.md.A o.md.n o.md.c, .int .i64 o.r0, .int .i64 o.r1, .int .i64 o.r2, .slice o.rd.A o.rd.n o.rd.c] 64) = W.alloc (.cells o.cells 64) from fun _ => rfl]
 generalize w.alloc (.cells o.cells 64) = w0 at HW HB ⊢
 generalize tagged w own 24 = o0 at HW HB
 have c0 : w0.cell? ⟨gop, 0, none⟩ = some (.int .i64 o.kd) := Blk.cell (i := 0) HB.out.blk rfl
 by_cases k1 : o.kd = 1
 ·
  have d1 : decide (o.kd = 1) = true := by simp [k1]
  have d1' : (o.kd == 1) = true := by simp [k1]
  clear k1
  obtain ⟨gx, hgx⟩ : ∃ gx, gx = w0.heap.size := ⟨_, rfl⟩
  have hkx := Kp.below (ts := fun _ => False) (own := o0) (Below.alloc (Below.refl w0.heap.size w0) (Nat.le_refl _) (.cells #[.slice none 0 0, .bool false] 67)) (32 * h.L.length + 21)
  have HX := Lib.hid (show Blk (w0.alloc (.cells #[.slice none 0 0, .bool false] 67)) gx #[.slice none 0 0, .bool false] 67 ∧ tagged w0 o0 (32 * h.L.length + 21) gx = 32 * h.L.length + 21 from ⟨by rw [hgx]; exact blkNew rfl, by rw [hgx]; exact tagged_new (Nat.le_refl _)⟩)
  have HW3 := Lib.hid (HW.out.keep (hkx.mono (fun q hq => hq.elim)))
  have HK3 := Lib.hid (HB.out.kp.trans (hkx.mono (fun q hq => hq.elim)))
  clear hkx HW HB
  go_upto_region 3 with (go_at_call 9; refine (new_ok _).mono ?_; rintro e w' ⟨rfl, rfl⟩)
  simp only [← hgx]
  clear hgx c0 d1 d1'
  generalize w0.alloc (.cells #[.slice none 0 0, .bool false] 67) = w3 at HX HW3 HK3 ⊢
  generalize tagged w0 o0 (32 * h.L.length + 21) = o3 at HX HW3 HK3
  have k0 : w3.cell? ⟨g, 0, none⟩ = some s.l.enc := Blk.cell (i := 0) HW3.out.blk rfl
  refine start_ (n := 13) (S := fun w' => w'.cell? ⟨g, 0, none⟩ = some s.l.enc) (ds := [9, 12]) #[false, false, false, false, false, false, false, false, false, false, false, false, false] (by kernel_rfl) rfl rfl k0 (fun hHeld => ?_)
  refine pure_ (i := 0) (N := some 16) (v := ?_) (a' := ?_) #[true, false, false, false, false, false, false, false, false, false, false, false, false] rfl rfl (by kernel_rfl) (fun _ _ _ h => h) (Or.inl ⟨by rfl, ?_⟩) ?_ ?_
  rotate_left
  · (intro w'; go_simp; with_reducible rfl)
  rotate_left
  · (simp only [put_s, List.set, i64_w, i32_w]; rfl)
  refine pure_ (i := 1) (N := some 17) (v := ?_) (a' := ?_) #[true, true, false, false, false, false, false, false, false, false, false, false, false] rfl rfl (by kernel_rfl) (fun _ _ _ h => h) (Or.inl ⟨by rfl, ?_⟩) ?_ ?_
  rotate_left
  · (intro w'; go_simp; with_reducible rfl)
  rotate_left
  · (simp only [put_s, List.set, i64_w, i32_w]; rfl)
  refine pure_ (i := 2) (N := some 18) (v := ?_) (a' := ?_) #[true, true, true, false, false, false, false, false, false, false, false, false, false] rfl rfl (by kernel_rfl) (fun _ _ _ h => h) (Or.inl ⟨by rfl, ?_⟩) ?_ ?_
  rotate_left
  · (intro w'; go_simp; with_reducible rfl)
  rotate_left
  · (simp only [put_s, List.set, i64_w, i32_w]; rfl)
  refine pure_ (i := 3) (N := some 19) (v := ?_) (a' := ?_) #[true, true, true, true, false, false, false, false, false, false, false, false, false] rfl rfl (by kernel_rfl) (fun _ _ _ h => h) (Or.inl ⟨by rfl, ?_⟩) ?_ ?_
  rotate_left
  · (intro w'; go_simp; with_reducible rfl)
  rotate_left
  · (simp only [put_s, List.set, i64_w, i32_w]; rfl)
  refine take_ (i := 4) (N := some 20) (v := ?_) (a' := ?_) #[true, true, true, true, true, false, false, false, false, false, false, false, false] rfl rfl (by kernel_rfl) (fun _ _ _ h => h) (Or.inl ⟨by rfl, ?_⟩) hHeld ?_ ?_
  rotate_left
  · (intro w' s0; go_simp; with_reducible rfl)
  rotate_left
  · (simp only [put_s, List.set, i64_w, i32_w]; rfl)
  refine pure_ (i := 5) (N := some 21) (v := ?_) (a' := ?_) #[true, true, true, true, true, true, false, false, false, false, false, false, false] rfl rfl (by kernel_rfl) (fun _ _ _ h => h) (Or.inl ⟨by rfl, ?_⟩) ?_ ?_
  rotate_left
  · (intro w'; go_simp; with_reducible rfl)
  rotate_left
  · (simp only [put_s, List.set, i64_w, i32_w]; rfl)
  refine one_ (i := 6) (N := some 22) #[true, true, true, true, true, true, true, false, false, false, false, false, false] rfl rfl (by kernel_rfl) (by decide) (fun K hK => ?_)
  refine goes_ Try.func30 (by kernel_rfl) rfl #[] (by rfl) rfl rfl (by simp) ?_
  refine Calls.mono (rnew_ok _) ?_
  rintro e w4 ⟨rfl, hw4⟩
  have hky := Kp.below (ts := fun _ => False) (own := o3) (by rw [← hw4]; exact Below.alloc (Below.drew (Below.refl w3.heap.size w3)) (Nat.le_refl _) (.cells #[.slice none 0 0, .bool false] 106)) (32 * h.L.length + 22) (w' := w4)
  have hyb : Blk w4 w3.drew.heap.size #[.slice none 0 0, .bool false] 106 := by rw [← hw4]; exact blkNew rfl
  have hyt : tagged w3 o3 (32 * h.L.length + 22) w3.drew.heap.size = 32 * h.L.length + 22 := tagged_new (Nat.le_refl _)
  have hHeld : w4.cell? ⟨g, 0, none⟩ = some s.l.enc := by rw [← hw4]; exact (World.cell?_alloc_lt _ _ _ (World.block_lt_of_cell? _ _ hHeld)).trans hHeld
  clear hw4
  generalize w3.drew.heap.size = gy at hyb hyt ⊢
  have HY := Lib.hid (show _ ∧ _ from ⟨hyb, hyt⟩)
  have HX4 := Lib.hid (show Blk w4 gx #[.slice none 0 0, .bool false] 67 ∧ tagged w3 o3 (32 * h.L.length + 22) gx = 32 * h.L.length + 21 from ⟨(Blk.keep HX.out.1 hky (fun h => h)).1, (Blk.keep HX.out.1 hky (fun h => h)).2.trans HX.out.2⟩)
  have HW4 := Lib.hid (HW3.out.keep (hky.mono (fun q hq => hq.elim)))
  have HK4 := Lib.hid (HK3.out.trans (hky.mono (fun q hq => hq.elim)))
  generalize tagged w3 o3 (32 * h.L.length + 22) = o4 at HY HX4 HW4 HK4 hyt hky
  have HB5 := Lib.hid HW4.out.blk
  have HGB5 := Lib.hid HW4.out.og
  have HG05 := Lib.hid HW4.out.og
  clear hyb hyt hky
  refine ⟨_, rfl, ?_⟩
  refine hK.out _ _ hHeld (fun hHeld => ?_)
  clear hK K
  refine norm_ (a' := ?_) ?_ ?_
  rotate_left
  ·
   show Act.put _ (some 22) _ = _
   simp only [put_s, List.set, i64_w, i32_w]
   rfl
  refine pure_ (i := 7) (N := some 23) (v := ?_) (a' := ?_) #[true, true, true, true, true, true, true, true, false, false, false, false, false] rfl rfl (by kernel_rfl) (fun _ _ _ h => h) (Or.inl ⟨by rfl, ?_⟩) ?_ ?_
  rotate_left
  · (intro w'; go_simp; with_reducible rfl)
  rotate_left
  · (simp only [put_s, List.set, i64_w, i32_w]; rfl)
  refine one_ (i := 8) (N := some 24) #[true, true, true, true, true, true, true, true, true, false, false, false, false] rfl rfl (by kernel_rfl) (by decide) (fun K hK => ?_)
  refine value_ (v := .slice (some ⟨w4.heap.size, 0, none⟩) 1 1) (w1 := w4.alloc (.cells #[pt gx, pt gy] 81)) (by rfl) rfl (by go_simp) ?_
  refine hK.out _ _ ((World.cell?_alloc_lt _ _ _ (World.block_lt_of_cell? _ _ hHeld)).trans hHeld) (fun hHeld => ?_)
  clear hK K
  refine norm_ (a' := ?_) ?_ ?_
  rotate_left
  ·
   show Act.put _ (some 24) _ = _
   simp only [put_s, List.set, i64_w, i32_w]
   rfl
  refine last_ (i := 9) (N := some 25) #[true, true, true, true, true, true, true, true, true, true, false, false, false] rfl rfl (by kernel_rfl) (by decide) (fun K hK => ?_)
  refine Kd.R_append_step pairK (w0 := w4) 0 (by rfl) (.tmp 20) (.tmp 24) 52 81 (.agg #[.pointer none, .pointer none]) 16 rfl Try.underlying52 info81 rfl (by decide) (by decide) s.l.enc (h.L.map (fun p => (p.x, p.y))) (gx, gy) [pt gx, pt gy] (fun k => tagged w4 o4 20 k = 20) (fun _ => False) rfl rfl rfl (fun _ hk => hk.elim) (fun q hq => tagged_new (by have hz : (w4).heap.size ≤ q := hq; exact hz)) (Ow.alloc HW4.out.l.1 (Below.refl _ _)) (Below.refl 0 _) (Nat.zero_le _) (by simp; omega) ?_
  intro v5 w5 ho hb hg hat
  obtain ⟨s5, rfl, ho', hk'⟩ := Ow.pushed HW4.out.l.1 (Below.refl _ _) ho hg
  clear ho hb hg hat
  have hbb := Blk.keep (HB5.out) hk' (by rw [HGB5.out]; decide)
  have HBK5 := Lib.hid hbb.1
  have HG5 := Lib.hid (hbb.2.trans HGB5.out)
  have HO5 := Lib.hid ho'
  have HK5 := Lib.hid hk'
  have c5 := Blk.cell (i := 0) hbb.1 rfl
  have z5 := Blk.frozen (i := 0) hbb.1
  clear ho' hk' hbb HB5
  refine hK.out _ _ ?_
  clear hK K
  refine norm_ (a' := ?_) ?_ ?_
  rotate_left
  ·
   show Act.put _ (some 25) _ = _
   simp only [put_s, List.set, i64_w, i32_w]
   rfl
  refine pure_ (i := 10) (N := some 26) (v := ?_) (a' := ?_) #[true, true, true, true, true, true, true, true, true, true, true, false, false] rfl rfl (by kernel_rfl) (fun _ _ _ h => h) (Or.inl ⟨by rfl, ?_⟩) ?_ ?_
  rotate_left
  · (intro w'; go_simp; with_reducible rfl)
  rotate_left
  · (simp only [put_s, List.set, i64_w, i32_w]; rfl)
  refine pure_ (i := 11) (N := some 27) (v := ?_) (a' := ?_) #[true, true, true, true, true, true, true, true, true, true, true, true, false] rfl rfl (by kernel_rfl) (fun _ _ _ h => h) (Or.inl ⟨by rfl, ?_⟩) ?_ ?_
  rotate_left
  · (intro w'; go_simp; with_reducible rfl)
  rotate_left
  · (simp only [put_s, List.set, i64_w, i32_w]; rfl)
  refine last_ (i := 12) (N := none) #[true, true, true, true, true, true, true, true, true, true, true, true, true] rfl rfl (by kernel_rfl) (by decide) (fun K hK => ?_)
  refine skip_ (w1 := w5.setCell ⟨g, 0, none⟩ s5.enc) (by rfl) rfl (by simp only [Sl.enc]; go_simp) ?_
  refine hK.out _ _ ?_
  clear hK K
  refine done_ (by kernel_rfl) ?_
  clear c5 z5
  obtain ⟨hb', hk', ho'⟩ := push_end 0 HBK5.out HK5.out HO5.out HGB5.out (by decide)
  have HBS5 := Lib.hid hb'
  have HKS5 := Lib.hid hk'
  have HOS5 := Lib.hid ho'
  have HGS5 := Lib.hid HG5.out
  clear hb' hk' ho' HBK5 HK5 HO5 HG5 HGB5 HG05
  generalize w5.setCell ⟨g, 0, none⟩ s5.enc = W5 at *
  go_wp2_with fail
  go_ret
  have hW := HW4.out
  have hk := HKS5.out
  have hb : Blk W5 g ({ s with l := s5 } : St).cells 61 := HBS5.out
  have hl : PL W5 (tagged w4 o4 20) s5 (h.L ++ [⟨gx, gy, [], false⟩]) := by
   refine ⟨by rw [List.map_append]; exact HOS5.out, fun i p hp => ?_⟩
   rw [List.getElem?_append] at hp
   split at hp
   · exact (hW.l.2 i p hp).keep hk (by (intro hq; first | omega | (dsimp only at hq; omega) | (dsimp only at hq; done))) (by (intro hq; first | omega | (dsimp only at hq; omega) | (dsimp only at hq; done)))
   ·
    rename_i hge
    have hi : i = h.L.length := by
     have := (List.getElem?_eq_some_iff.1 hp).1
     simp at this
     omega
    subst hi
    simp at hp
    subst hp
    exact ⟨⟨_, (Blk.keep HX4.out.1 hk (by rw [HX4.out.2]; (intro hq; first | omega | (dsimp only at hq; omega) | (dsimp only at hq; done)))).1, Kd.R_nil _ _ _ _ _⟩, ⟨_, (Blk.keep HY.out.1 hk (by rw [HY.out.2]; (intro hq; first | omega | (dsimp only at hq; omega) | (dsimp only at hq; done)))).1, off_nil _ _⟩, (Blk.keep HX4.out.1 hk (by rw [HX4.out.2]; (intro hq; first | omega | (dsimp only at hq; omega) | (dsimp only at hq; done)))).2.trans HX4.out.2, (Blk.keep HY.out.1 hk (by rw [HY.out.2]; (intro hq; first | omega | (dsimp only at hq; omega) | (dsimp only at hq; done)))).2.trans HY.out.2, by simp [u8s], by simp⟩
  have hw : WInv W5 g (tagged w4 o4 20) { s with l := s5 } { h with L := h.L ++ [⟨gx, gy, [], false⟩] } := by constructor <;> (first | assumption | (have q := (Blk.keep (WInv.blk hW) hk (by rw [WInv.og hW]; (intro hq; first | omega | (dsimp only at hq; omega) | (dsimp only at hq; done)))).1; exact q) | (have q := (Blk.keep (WInv.blk hW) hk (by rw [WInv.og hW]; (intro hq; first | omega | (dsimp only at hq; omega) | (dsimp only at hq; done)))).2.trans (WInv.og hW); exact q) | (have q := PL.keep (WInv.l hW) hk (by (intro hq; first | omega | (dsimp only at hq; omega) | (dsimp only at hq; done))) (fun i => by (intro hq; first | omega | (dsimp only at hq; omega) | (dsimp only at hq; done))) (fun i => by (intro hq; first | omega | (dsimp only at hq; omega) | (dsimp only at hq; done))); exact q) | (have q := PO.keep (WInv.f0 hW) hk (by (intro hq; first | omega | (dsimp only at hq; omega) | (dsimp only at hq; done))) (fun i => by (intro hq; first | omega | (dsimp only at hq; omega) | (dsimp only at hq; done))); exact q) | (have q := PR.keep u8K_K (by decide) (WInv.f1 hW) hk (by (intro hq; first | omega | (dsimp only at hq; omega) | (dsimp only at hq; done))) (by (intro hq; first | omega | (dsimp only at hq; omega) | (dsimp only at hq; done))); exact q) | (have q := PO.keep (WInv.t0 hW) hk (by (intro hq; first | omega | (dsimp only at hq; omega) | (dsimp only at hq; done))) (fun i => by (intro hq; first | omega | (dsimp only at hq; omega) | (dsimp only at hq; done))); exact q) | (have q := PR.keep mcK_K (by decide) (WInv.t1 hW) hk (by (intro hq; first | omega | (dsimp only at hq; omega) | (dsimp only at hq; done))) (by (intro hq; first | omega | (dsimp only at hq; omega) | (dsimp only at hq; done))); exact q) | (have q := PO.keep (WInv.a0 hW) hk (by (intro hq; first | omega | (dsimp only at hq; omega) | (dsimp only at hq; done))) (fun i => by (intro hq; first | omega | (dsimp only at hq; omega) | (dsimp only at hq; done))); exact q) | (have q := PR.keep rcK_K (by decide) (WInv.a1 hW) hk (by (intro hq; first | omega | (dsimp only at hq; omega) | (dsimp only at hq; done))) (by (intro hq; first | omega | (dsimp only at hq; omega) | (dsimp only at hq; done))); exact q) | (have q := PR.keep u8K_K (by decide) (WInv.b hW) hk (by (intro hq; first | omega | (dsimp only at hq; omega) | (dsimp only at hq; done))) (by (intro hq; first | omega | (dsimp only at hq; omega) | (dsimp only at hq; done))); exact q) | (have q := PR.keep mcK_K (by decide) (WInv.m hW) hk (by (intro hq; first | omega | (dsimp only at hq; omega) | (dsimp only at hq; done))) (by (intro hq; first | omega | (dsimp only at hq; omega) | (dsimp only at hq; done))); exact q) | (have q := PR.keep rcK_K (by decide) (WInv.r hW) hk (by (intro hq; first | omega | (dsimp only at hq; omega) | (dsimp only at hq; done))) (by (intro hq; first | omega | (dsimp only at hq; omega) | (dsimp only at hq; done))); exact q) | (have q := Ow.keep (WInv.k0 hW) hk (by (intro hq; first | omega | (dsimp only at hq; omega) | (dsimp only at hq; done))); exact q) | (have q := Ow.keep (WInv.k1 hW) hk (by (intro hq; first | omega | (dsimp only at hq; omega) | (dsimp only at hq; done))); exact q) | (have q := Ow.keep (WInv.k2 hW) hk (by (intro hq; first | omega | (dsimp only at hq; omega) | (dsimp only at hq; done))); exact q) | (have q := PO.keep (WInv.e hW) hk (by (intro hq; first | omega | (dsimp only at hq; omega) | (dsimp only at hq; done))) (fun i => by (intro hq; first | omega | (dsimp only at hq; omega) | (dsimp only at hq; done))); exact q))
  exact ⟨rfl, _, _, _, hw, HG.out.new _, HK4.out.trans (hk.mono (fun q hq => by unfold big; omega))⟩
 ·
  have d1 : decide (o.kd = 1) = false := by simp [k1]
  have d1' : (o.kd == 1) = false := by simp [k1]
  by_cases k5 : o.kd = 5
  ·
   have d5 : decide (o.kd = 5) = true := by simp [k5]
   have d5' : (o.kd == 5) = true := by simp [k5]
   clear k5
   have c1 : w0.cell? ⟨gop, 1, none⟩ = some (.int .i64 o.pp) := Blk.cell (i := 1) HB.out.blk rfl
   have c2 : w0.cell? ⟨gop, 2, none⟩ = some (.slice o.d.A o.d.n o.d.c) := Blk.cell (i := 2) HB.out.blk rfl
   have c3 : w0.cell? ⟨gop, 3, none⟩ = some (.int .i64 o.m0) := Blk.cell (i := 3) HB.out.blk rfl
   have c4 : w0.cell? ⟨gop, 4, none⟩ = some (.int .i64 o.m1) := Blk.cell (i := 4) HB.out.blk rfl
   have c5 : w0.cell? ⟨gop, 5, none⟩ = some (.string o.m2) := Blk.cell (i := 5) HB.out.blk rfl
   have c6 : w0.cell? ⟨gop, 6, none⟩ = some (.int .i64 o.m3) := Blk.cell (i := 6) HB.out.blk rfl
   have c7 : w0.cell? ⟨gop, 7, none⟩ = some (.slice o.md.A o.md.n o.md.c) := Blk.cell (i := 7) HB.out.blk rfl
   have c8 : w0.cell? ⟨gop, 8, none⟩ = some (.int .i64 o.r0) := Blk.cell (i := 8) HB.out.blk rfl
   have c9 : w0.cell? ⟨gop, 9, none⟩ = some (.int .i64 o.r1) := Blk.cell (i := 9) HB.out.blk rfl
   have c10 : w0.cell? ⟨gop, 10, none⟩ = some (.int .i64 o.r2) := Blk.cell (i := 10) HB.out.blk rfl
   have c11 : w0.cell? ⟨gop, 11, none⟩ = some (.slice o.rd.A o.rd.n o.rd.c) := Blk.cell (i := 11) HB.out.blk rfl
   go_wp2_with (go_at_call 31; refine Calls.mono (codes_ok w0 g o0 s h o HW.out HM.out HB.out.ok HG.out.cl hFl (by omega)) ?_; rintro e w5 ⟨rfl, o5, s5, E, D, cs, hw5, hx5, hk5⟩)
   go_ret
   exact ⟨rfl, o5, s5, _, hw5, HG.out.cod hx5, HB.out.kp.trans hk5⟩
  ·
   have d5 : decide (o.kd = 5) = false := by simp [k5]
   have d5' : (o.kd == 5) = false := by simp [k5]
   by_cases k6 : o.kd = 6
   ·
    have d6 : decide (o.kd = 6) = true := by simp [k6]
    have d6' : (o.kd == 6) = true := by simp [k6]
    clear k6
    have c1 : w0.cell? ⟨gop, 1, none⟩ = some (.int .i64 o.pp) := Blk.cell (i := 1) HB.out.blk rfl
    have c2 : w0.cell? ⟨gop, 2, none⟩ = some (.slice o.d.A o.d.n o.d.c) := Blk.cell (i := 2) HB.out.blk rfl
    have c3 : w0.cell? ⟨gop, 3, none⟩ = some (.int .i64 o.m0) := Blk.cell (i := 3) HB.out.blk rfl
    have c4 : w0.cell? ⟨gop, 4, none⟩ = some (.int .i64 o.m1) := Blk.cell (i := 4) HB.out.blk rfl
    have c5 : w0.cell? ⟨gop, 5, none⟩ = some (.string o.m2) := Blk.cell (i := 5) HB.out.blk rfl
    have c6 : w0.cell? ⟨gop, 6, none⟩ = some (.int .i64 o.m3) := Blk.cell (i := 6) HB.out.blk rfl
    have c7 : w0.cell? ⟨gop, 7, none⟩ = some (.slice o.md.A o.md.n o.md.c) := Blk.cell (i := 7) HB.out.blk rfl
    have c8 : w0.cell? ⟨gop, 8, none⟩ = some (.int .i64 o.r0) := Blk.cell (i := 8) HB.out.blk rfl
    have c9 : w0.cell? ⟨gop, 9, none⟩ = some (.int .i64 o.r1) := Blk.cell (i := 9) HB.out.blk rfl
    have c10 : w0.cell? ⟨gop, 10, none⟩ = some (.int .i64 o.r2) := Blk.cell (i := 10) HB.out.blk rfl
    have c11 : w0.cell? ⟨gop, 11, none⟩ = some (.slice o.rd.A o.rd.n o.rd.c) := Blk.cell (i := 11) HB.out.blk rfl
    go_wp2_with (go_at_call 31; refine Calls.mono (codes_ok w0 g o0 s h o HW.out HM.out HB.out.ok HG.out.cl hFl (by omega)) ?_; rintro e w5 ⟨rfl, o5, s5, E, D, cs, hw5, hx5, hk5⟩)
    go_ret
    exact ⟨rfl, o5, s5, _, hw5, HG.out.cod hx5, HB.out.kp.trans hk5⟩
   ·
    have d6 : decide (o.kd = 6) = false := by simp [k6]
    have d6' : (o.kd == 6) = false := by simp [k6]
    by_cases k7 : o.kd = 7
    ·
     have d7 : decide (o.kd = 7) = true := by simp [k7]
     have d7' : (o.kd == 7) = true := by simp [k7]
     clear k7
     have c2 : w0.cell? ⟨gop, 2, none⟩ = some (.slice o.d.A o.d.n o.d.c) := Blk.cell (i := 2) HB.out.blk rfl
     go_wp2_with (go_at_call 32; refine Calls.mono (decodes_ok w0 g o0 s h o.d o.dx HW.out HM.out HB.out.ok.d HB.out.ok.ud HB.out.ok.ld HG.out.cl HG.out.vl hFl (by omega) hAl) ?_; rintro e w5 ⟨rfl, o5, s5, E, D, cs, T, U, hw5, hx5, hk5⟩)
     go_ret
     exact ⟨rfl, o5, s5, _, hw5, HG.out.dec hx5, HB.out.kp.trans hk5⟩
    ·
     have d7 : decide (o.kd = 7) = false := by simp [k7]
     have d7' : (o.kd == 7) = false := by simp [k7]
     obtain ⟨A0, lc, hlc, k0, hl0⟩ := row_any (i := 0) HW.out.blk rfl HW.out.l.1
     rw [List.length_map] at hlc k0 hl0
     by_cases hz : h.L.length = 0
     ·
      have dz : decide ((h.L.length : Int) = 0) = true := decide_eq_true (by omega)
      have dz' : ((h.L.length : Int) == 0) = true := by rw [beq_iff_eq]; omega
      clear hl0
      go_wp2_with fail
      go_ret
      exact ⟨rfl, o0, s, h, HW.out, HG.out.mono (by omega), HB.out.kp⟩
     ·
      have dz : decide ((h.L.length : Int) = 0) = false := decide_eq_false (by omega)
      have dz' : ((h.L.length : Int) == 0) = false := by rw [beq_eq_false_iff_ne]; omega
      obtain ⟨ad, rfl, hcc⟩ := hl0.2.2 (by omega)
      have HPR := Lib.hid (show ∀ (k : Nat) (p : PG), h.L[k]? = some p → w0.drew.cell? (ad.add (k * 2)) = some (pt p.x) ∧ w0.drew.cell? ⟨(ad.add (k * 2)).block, (ad.add (k * 2)).off + 1, none⟩ = some (pt p.y) from fun k p hp => by
       obtain ⟨cc, h1, h2, h3⟩ := hcc k (p.x, p.y) (by rw [List.getElem?_map, hp]; rfl)
       have h2' : cc = [pt p.x, pt p.y] := h2
       subst h2'
       refine ⟨h3 0 _ rfl, ?_⟩
       have := h3 1 _ rfl
       rw [← add_field _ _ 1 (by omega)]
       exact this)
      have c1 : w0.cell? ⟨gop, 1, none⟩ = some (.int .i64 o.pp) := Blk.cell (i := 1) HB.out.blk rfl
      clear hcc hl0
      go_wp2_with fail
      refine start_ (n := 16) (S := fun w' => w'.cell? ⟨g, 0, none⟩ = some (.slice (some ad) h.L.length lc) ∧ w'.cell? ⟨gop, 1, none⟩ = some (.int .i64 o.pp) ∧ (∀ (k : Nat) (p : PG), h.L[k]? = some p → w'.cell? (ad.add (k * 2)) = some (pt p.x) ∧ w'.cell? ⟨(ad.add (k * 2)).block, (ad.add (k * 2)).off + 1, none⟩ = some (pt p.y))) (ds := [15]) #[false, false, false, false, false, false, false, false, false, false, false, false, false, false, false, false] (by kernel_rfl) rfl rfl ⟨k0, c1, HPR.out⟩ (fun hHeld => ?_)
      refine pure_ (i := 0) (N := some 56) (v := ?_) (a' := ?_) #[true, false, false, false, false, false, false, false, false, false, false, false, false, false, false, false] rfl rfl (by kernel_rfl) (fun _ _ _ h => h) (Or.inl ⟨by rfl, ?_⟩) ?_ ?_
      rotate_left
      · (intro w'; go_simp; with_reducible rfl)
      rotate_left
      · (simp only [put_s, List.set, i64_w, i32_w]; rfl)
      refine pure_ (i := 1) (N := some 57) (v := ?_) (a' := ?_) #[true, true, false, false, false, false, false, false, false, false, false, false, false, false, false, false] rfl rfl (by kernel_rfl) (fun _ _ _ h => h) (Or.inl ⟨by rfl, ?_⟩) ?_ ?_
      rotate_left
      · (intro w'; go_simp; with_reducible rfl)
      rotate_left
      · (simp only [put_s, List.set, i64_w, i32_w]; rfl)
      refine pure_ (i := 2) (N := some 58) (v := ?_) (a' := ?_) #[true, true, true, false, false, false, false, false, false, false, false, false, false, false, false, false] rfl rfl (by kernel_rfl) (fun _ _ _ h => h) (Or.inl ⟨by rfl, ?_⟩) ?_ ?_
      rotate_left
      · (intro w'; go_simp; with_reducible rfl)
      rotate_left
      · (simp only [put_s, List.set, i64_w, i32_w]; rfl)
      refine take_ (i := 3) (N := some 59) (v := ?_) (a' := ?_) #[true, true, true, true, false, false, false, false, false, false, false, false, false, false, false, false] rfl rfl (by kernel_rfl) (fun _ _ _ h => h) (Or.inl ⟨by rfl, ?_⟩) hHeld ?_ ?_
      rotate_left
      · (intro w' s0; go_simp; with_reducible rfl)
      rotate_left
      · (simp only [put_s, List.set, i64_w, i32_w]; rfl)
      refine pure_ (i := 4) (N := some 60) (v := ?_) (a' := ?_) #[true, true, true, true, true, false, false, false, false, false, false, false, false, false, false, false] rfl rfl (by kernel_rfl) (fun _ _ _ h => h) (Or.inl ⟨by rfl, ?_⟩) ?_ ?_
      rotate_left
      · (intro w'; go_simp; with_reducible rfl)
      rotate_left
      · (simp only [put_s, List.set, i64_w, i32_w]; rfl)
      refine take_ (i := 5) (N := some 61) (v := ?_) (a' := ?_) #[true, true, true, true, true, true, false, false, false, false, false, false, false, false, false, false] rfl rfl (by kernel_rfl) (fun _ _ _ h => h) (Or.inl ⟨by rfl, ?_⟩) hHeld ?_ ?_
      rotate_left
      · (intro w' s0; go_simp; with_reducible rfl)
      rotate_left
      · (simp only [put_s, List.set, i64_w, i32_w]; rfl)
      refine pure_ (i := 6) (N := some 62) (v := ?_) (a' := ?_) #[true, true, true, true, true, true, true, false, false, false, false, false, false, false, false, false] rfl rfl (by kernel_rfl) (fun _ _ _ h => h) (Or.inl ⟨by rfl, ?_⟩) ?_ ?_
      rotate_left
      · (intro w'; go_simp; with_reducible rfl)
      rotate_left
      · (simp only [put_s, List.set, i64_w, i32_w]; rfl)
      refine pure_ (i := 7) (N := some 63) (v := ?_) (a' := ?_) #[true, true, true, true, true, true, true, true, false, false, false, false, false, false, false, false] rfl rfl (by kernel_rfl) (fun _ _ _ h => h) (Or.inl ⟨by rfl, ?_⟩) ?_ ?_
      rotate_left
      · (intro w'; go_simp; with_reducible rfl)
      rotate_left
      · (simp only [put_s, List.set, i64_w, i32_w]; rfl)
      refine pure_ (i := 8) (N := some 64) (v := ?_) (a' := ?_) #[true, true, true, true, true, true, true, true, true, false, false, false, false, false, false, false] rfl rfl (by kernel_rfl) (fun _ _ _ h => h) (Or.inl ⟨by rfl, ?_⟩) ?_ ?_
      rotate_left
      · (intro w'; go_simp; with_reducible rfl)
      rotate_left
      · (simp only [put_s, List.set, i64_w, i32_w]; rfl)
      refine take_ (i := 9) (N := some 65) (v := ?_) (a' := ?_) #[true, true, true, true, true, true, true, true, true, true, false, false, false, false, false, false] rfl rfl (by kernel_rfl) (fun _ _ _ h => h) (Or.inl ⟨by rfl, ?_⟩) hHeld ?_ ?_
      rotate_left
      · (intro w' s0; go_simp; with_reducible rfl)
      rotate_left
      · (simp only [put_s, List.set, i64_w, i32_w]; rfl)
      refine pure_ (i := 10) (N := some 66) (v := ?_) (a' := ?_) #[true, true, true, true, true, true, true, true, true, true, true, false, false, false, false, false] rfl rfl (by kernel_rfl) (fun _ _ _ h => h) (Or.inl ⟨by rfl, ?_⟩) ?_ ?_
      rotate_left
      · (intro w'; go_simp; with_reducible rfl)
      rotate_left
      · (simp only [put_s, List.set, i64_w, i32_w]; rfl)
      refine join_ 1 #[true, true, true, true, true, true, true, true, true, true, true, true, true, true, true, false] (fun kp : Nat × PG => [(67, .int .i64 (kp.1 : Int)), (68, .pointer (some (ad.add (kp.1 * 2)))), (69, .agg #[pt kp.2.x, pt kp.2.y]), (6, .pointer (some ⟨w0.drew.heap.size, 0, none⟩))]) (fun kp w' => kp.1 < h.L.length ∧ h.L[kp.1]? = some kp.2 ∧ w' = (w0.drew.alloc (.cells #[.pointer none, .pointer none] 81))) ?_ ?_
      rotate_left
      ·
       intro hJ
       refine two_ (i := 11) (j := 14) (Ni := some 67) (Nj := some 6) #[true, true, true, true, true, true, true, true, true, true, true, true, false, false, false, false] #[true, true, true, true, true, true, true, true, true, true, true, false, false, false, true, false] rfl rfl rfl rfl (by kernel_rfl) (by decide) (by decide) (fun K hK => ?_) (fun K hK => ?_)
       ·
        refine goes_ Try.func11 (by kernel_rfl) rfl #[.int .i64 o.pp, .int .i64 (h.L.length : Int)] (by rfl) rfl rfl (by simp [Act.eval]) ?_
        refine Calls.mono (pick_ok o.pp (h.L.length : Int) _ hpp (by omega) (by omega)) ?_
        rintro e w2 ⟨r, rfl, hr0, hr1, rfl⟩
        refine ⟨_, rfl, ?_⟩
        refine hK.out _ _ hHeld (fun hHeld => ?_)
        clear hK K
        refine norm_ (a' := ?_) ?_ ?_
        rotate_left
        ·
         show Act.put _ (some 67) _ = _
         simp only [put_s, List.set, i64_w, i32_w]
         rfl
        obtain ⟨k, rfl⟩ : ∃ k : Nat, r = (k : Int) := ⟨r.toNat, by omega⟩
        have hkl : k < h.L.length := by omega
        obtain ⟨p, hp⟩ : ∃ p, h.L[k]? = some p := ⟨h.L[k], List.getElem?_eq_getElem hkl⟩
        have HP := Lib.hid hp
        have hkd : decide ((k : Int) < (h.L.length : Int)) = true := by simp; omega
        clear hp hr0
        refine pure_ (i := 12) (N := some 68) (v := ?_) (a' := ?_) #[true, true, true, true, true, true, true, true, true, true, true, true, true, false, false, false] rfl rfl (by kernel_rfl) (fun _ _ _ h => h) (Or.inl ⟨by rfl, ?_⟩) ?_ ?_
        rotate_left
        · (intro w'; go_simp; with_reducible rfl)
        rotate_left
        · (simp only [put_s, List.set, i64_w, i32_w]; rfl)
        refine take_ (i := 13) (N := some 69) (v := ?_) (a' := ?_) #[true, true, true, true, true, true, true, true, true, true, true, true, true, true, false, false] rfl rfl (by kernel_rfl) (fun _ _ _ h => h) (Or.inl ⟨by rfl, ?_⟩) hHeld ?_ ?_
        rotate_left
        ·
         intro w' s0
         obtain ⟨q1, q2⟩ := s0.2.2 k p HP.out
         clear s0
         go_simp
         with_reducible rfl
        rotate_left
        · (simp only [put_s, List.set, i64_w, i32_w]; rfl)
        refine one_ (i := 14) (N := some 6) #[true, true, true, true, true, true, true, true, true, true, true, true, true, true, true, false] rfl rfl (by kernel_rfl) (by decide) (fun K hK => ?_)
        refine value_ (v := .pointer (some ⟨w0.drew.heap.size, 0, none⟩)) (w1 := (w0.drew.alloc (.cells #[.pointer none, .pointer none] 81))) (by rfl) rfl (by go_simp) ?_
        refine hK.out _ _ ⟨(World.cell?_alloc_lt _ _ _ (World.block_lt_of_cell? _ _ hHeld.1)).trans hHeld.1, (World.cell?_alloc_lt _ _ _ (World.block_lt_of_cell? _ _ hHeld.2.1)).trans hHeld.2.1, fun k p hp => ⟨(World.cell?_alloc_lt _ _ _ (World.block_lt_of_cell? _ _ (hHeld.2.2 k p hp).1)).trans (hHeld.2.2 k p hp).1, (World.cell?_alloc_lt _ _ _ (World.block_lt_of_cell? _ _ (hHeld.2.2 k p hp).2)).trans (hHeld.2.2 k p hp).2⟩⟩ (fun hHeld => ?_)
        clear hK K
        refine norm_ (a' := ?_) ?_ ?_
        rotate_left
        ·
         show Act.put _ (some 6) _ = _
         simp only [put_s, List.set, i64_w, i32_w]
         rfl
        exact hJ ⟨k, p⟩ _ ⟨by omega, HP.out, rfl⟩
       ·
        refine value_ (v := .pointer (some ⟨w0.drew.heap.size, 0, none⟩)) (w1 := (w0.drew.alloc (.cells #[.pointer none, .pointer none] 81))) (by rfl) rfl (by go_simp) ?_
        refine hK.out _ _ ⟨(World.cell?_alloc_lt _ _ _ (World.block_lt_of_cell? _ _ hHeld.1)).trans hHeld.1, (World.cell?_alloc_lt _ _ _ (World.block_lt_of_cell? _ _ hHeld.2.1)).trans hHeld.2.1, fun k p hp => ⟨(World.cell?_alloc_lt _ _ _ (World.block_lt_of_cell? _ _ (hHeld.2.2 k p hp).1)).trans (hHeld.2.2 k p hp).1, (World.cell?_alloc_lt _ _ _ (World.block_lt_of_cell? _ _ (hHeld.2.2 k p hp).2)).trans (hHeld.2.2 k p hp).2⟩⟩ (fun hHeld => ?_)
        clear hK K
        refine norm_ (a' := ?_) ?_ ?_
        rotate_left
        ·
         show Act.put _ (some 6) _ = _
         simp only [put_s, List.set, i64_w, i32_w]
         rfl
        refine one_ (i := 11) (N := some 67) #[true, true, true, true, true, true, true, true, true, true, true, true, false, false, true, false] rfl rfl (by kernel_rfl) (by decide) (fun K hK => ?_)
        refine goes_ Try.func11 (by kernel_rfl) rfl #[.int .i64 o.pp, .int .i64 (h.L.length : Int)] (by rfl) rfl rfl (by simp [Act.eval]) ?_
        refine Calls.mono (pick_ok o.pp (h.L.length : Int) _ hpp (by omega) (by omega)) ?_
        rintro e w2 ⟨r, rfl, hr0, hr1, rfl⟩
        refine ⟨_, rfl, ?_⟩
        refine hK.out _ _ hHeld (fun hHeld => ?_)
        clear hK K
        refine norm_ (a' := ?_) ?_ ?_
        rotate_left
        ·
         show Act.put _ (some 67) _ = _
         simp only [put_s, List.set, i64_w, i32_w]
         rfl
        obtain ⟨k, rfl⟩ : ∃ k : Nat, r = (k : Int) := ⟨r.toNat, by omega⟩
        have hkl : k < h.L.length := by omega
        obtain ⟨p, hp⟩ : ∃ p, h.L[k]? = some p := ⟨h.L[k], List.getElem?_eq_getElem hkl⟩
        have HP := Lib.hid hp
        have hkd : decide ((k : Int) < (h.L.length : Int)) = true := by simp; omega
        clear hp hr0
        refine pure_ (i := 12) (N := some 68) (v := ?_) (a' := ?_) #[true, true, true, true, true, true, true, true, true, true, true, true, true, false, true, false] rfl rfl (by kernel_rfl) (fun _ _ _ h => h) (Or.inl ⟨by rfl, ?_⟩) ?_ ?_
        rotate_left
        · (intro w'; go_simp; with_reducible rfl)
        rotate_left
        · (simp only [put_s, List.set, i64_w, i32_w]; rfl)
        refine take_ (i := 13) (N := some 69) (v := ?_) (a' := ?_) #[true, true, true, true, true, true, true, true, true, true, true, true, true, true, true, false] rfl rfl (by kernel_rfl) (fun _ _ _ h => h) (Or.inl ⟨by rfl, ?_⟩) hHeld ?_ ?_
        rotate_left
        ·
         intro w' s0
         obtain ⟨q1, q2⟩ := s0.2.2 k p HP.out
         clear s0
         go_simp
         with_reducible rfl
        rotate_left
        · (simp only [put_s, List.set, i64_w, i32_w]; rfl)
        exact hJ ⟨k, p⟩ _ ⟨by omega, HP.out, rfl⟩
      rintro ⟨k, p⟩ w' ⟨hkl, hp, rfl⟩
      dsimp only at hkl hp ⊢
      refine norm_ (a' := ?_) ?_ ?_
      rotate_left
      ·
       simp only [putAll, Act.put, List.setIfInBounds_toArray, List.set_cons_zero, List.set_cons_succ]
       rfl
      have HP := Lib.hid hp
      clear hp
      refine last_ (i := 15) (N := none) #[true, true, true, true, true, true, true, true, true, true, true, true, true, true, true, true] rfl rfl (by kernel_rfl) (by decide) (fun K hK => ?_)
      refine skip_ (w1 := w0.drew.alloc (.cells #[pt p.x, pt p.y] 81)) (by rfl) rfl (by go_simp) ?_
      refine hK.out _ _ ?_
      clear hK K
      refine done_ (by kernel_rfl) ?_
      obtain ⟨gp, hgp⟩ : ∃ gp, gp = w0.drew.heap.size := ⟨_, rfl⟩
      have hk6 := Kp.below (ts := fun _ => False) (own := o0) (Below.alloc (Below.drew (Below.refl w0.heap.size w0)) (Nat.le_refl _) (.cells #[pt p.x, pt p.y] 81)) 24
      have HW6 := Lib.hid (HW.out.keep (hk6.mono (fun q hq => hq.elim)))
      have HB6 := Lib.hid (HB.out.keep hk6 (fun hq => hq) (fun hq => hq) (fun q hq => hq.elim))
      have HGP := Lib.hid (show Blk (w0.drew.alloc (.cells #[pt p.x, pt p.y] 81)) gp #[pt p.x, pt p.y] 81 ∧ tagged w0 o0 24 gp = 24 from ⟨by rw [hgp]; exact blkNew rfl, by rw [hgp]; exact tagged_new (Nat.le_refl _)⟩)
      simp only [← hgp]
      clear hk6 hgp HW HB k0 c1 c0 HPR
      generalize w0.drew.alloc (.cells #[pt p.x, pt p.y] 81) = w6 at HW6 HB6 HGP ⊢
      generalize tagged w0 o0 24 = o6 at HW6 HB6 HGP
      have c0 : w6.cell? ⟨gop, 0, none⟩ = some (.int .i64 o.kd) := Blk.cell (i := 0) HB6.out.blk rfl
      have p0 : w6.cell? ⟨gp, 0, none⟩ = some (pt p.x) := Blk.cell (i := 0) HGP.out.1 rfl
      have p1 : w6.cell? ⟨gp, 1, none⟩ = some (pt p.y) := Blk.cell (i := 1) HGP.out.1 rfl
      have HD := Lib.hid (HW6.out.l.2 k p HP.out)
      by_cases k2 : o.kd = 2
      ·
       have d2 : decide (o.kd = 2) = true := by simp [k2]
       have d2' : (o.kd == 2) = true := by simp [k2]
       clear k2
       have c2 : w6.cell? ⟨gop, 2, none⟩ = some (.slice o.d.A o.d.n o.d.c) := Blk.cell (i := 2) HB6.out.blk rfl
       go_wp2_with (go_at_call 33; refine Calls.mono (feeds_ok w6 g 27 o6 s h HW6.out HM.out k p HP.out o.d o.dx HB6.out.ok.d (.inr rfl) HB6.out.ok.ud HB6.out.ok.ld HG.out.cl hTl) ?_; rintro e w7 ⟨rfl, o7, s7, L, E, D, cs, l, c, ms, hw7, hc7, hm7, hD7, hx7, hL7, hE7, hEx7, hk7⟩)
       go_ret
       exact ⟨rfl, o7, s7, _, hw7, HG.out.fed hc7 hm7 hD7 hx7 hL7 hE7 hEx7, HB6.out.kp.trans hk7⟩
      ·
       have d2 : decide (o.kd = 2) = false := by simp [k2]
       have d2' : (o.kd == 2) = false := by simp [k2]
       by_cases k3 : o.kd = 3
       ·
        have d3 : decide (o.kd = 3) = true := by simp [k3]
        have d3' : (o.kd == 3) = true := by simp [k3]
        clear k3
        obtain ⟨wx, hbx, hox⟩ := HD.out.x
        obtain ⟨wy, hby, hoy⟩ := HD.out.y
        have HBX := Lib.hid hbx
        have HBY := Lib.hid hby
        clear hbx hox hby hoy
        go_wp2_with (first
         | (go_at_call 12; refine (poisoned_ok w6 p.x wx p.dead HBX.out).mono ?_; rintro e w' ⟨rfl, rfl⟩)
         | (go_at_call 34; refine (rpoisoned_ok w6 p.y wy p.dead HBY.out).mono ?_; rintro e w' ⟨rfl, rfl⟩))
        go_ret
        exact ⟨rfl, o6, s, h, HW6.out, HG.out.mono (by omega), HB6.out.kp⟩
       ·
        have d3 : decide (o.kd = 3) = false := by simp [k3]
        have d3' : (o.kd == 3) = false := by simp [k3]
        by_cases k4 : o.kd = 4
        ·
         have d4 : decide (o.kd = 4) = true := by simp [k4]
         have d4' : (o.kd == 4) = true := by simp [k4]
         clear k4
         obtain ⟨wx, hbx, hox⟩ := HD.out.x
         obtain ⟨wy, hby, hoy⟩ := HD.out.y
         obtain ⟨xA, xc, rfl, _, _⟩ := Kd.R_reads hox
         obtain ⟨yA, yc, rfl, _, _⟩ := off_reads hoy (by have := HD.out.le; omega)
         have HBX := Lib.hid hbx
         have HBY := Lib.hid hby
         clear hbx hox hby hoy
         go_wp2_with (first
          | (go_at_call 13; refine (waiting_ok w6 p.x xA p.ws.length xc _ HBX.out).mono ?_; rintro e w' ⟨rfl, rfl⟩)
          | (go_at_call 35; refine (rwaiting_ok w6 p.y yA p.ws.length yc _ HBY.out).mono ?_; rintro e w' ⟨rfl, rfl⟩))
         go_ret
         exact ⟨rfl, o6, s, h, HW6.out, HG.out.mono (by omega), HB6.out.kp⟩
        ·
         have d4 : decide (o.kd = 4) = false := by simp [k4]
         have d4' : (o.kd == 4) = false := by simp [k4]
         by_cases k8 : o.kd = 8
         ·
          have d8 : decide (o.kd = 8) = true := by simp [k8]
          have d8' : (o.kd == 8) = true := by simp [k8]
          clear k8
          have c3 : w6.cell? ⟨gop, 3, none⟩ = some (.int .i64 o.m0) := Blk.cell (i := 3) HB6.out.blk rfl
          have c4 : w6.cell? ⟨gop, 4, none⟩ = some (.int .i64 o.m1) := Blk.cell (i := 4) HB6.out.blk rfl
          have c5 : w6.cell? ⟨gop, 5, none⟩ = some (.string o.m2) := Blk.cell (i := 5) HB6.out.blk rfl
          have c6 : w6.cell? ⟨gop, 6, none⟩ = some (.int .i64 o.m3) := Blk.cell (i := 6) HB6.out.blk rfl
          have c7 : w6.cell? ⟨gop, 7, none⟩ = some (.slice o.md.A o.md.n o.md.c) := Blk.cell (i := 7) HB6.out.blk rfl
          have hmn : o.mx.length = o.md.n := Kd_C_len HB6.out.ok.md.1
          have hlm := HB6.out.ok.lm
          have hln := HB6.out.ok.ln
          go_upto_region 23 with (go_at_call 36; refine Calls.mono (refEncode_ok (⟨o.m0, o.m1, o.m2, o.m3, o.mx⟩ : S35) o.md.A o.md.n o.md.c w6 HB6.out.ok.md.1 (by omega) hln) ?_; intro e w7 hpost; obtain ⟨z1, rfl, hz1, hb7⟩ := enc_post hpost o6 27; clear hpost)
          clear c3 c4 c5 c6 c7
          have hk7 := Kp.below (ts := fun _ => False) (own := o6) hb7 27
          have HW7 := Lib.hid (HW6.out.keep (hk7.mono (fun q hq => hq.elim)))
          have HB7 := Lib.hid (HB6.out.keep hk7 (fun hq => hq) (fun hq => hq) (fun q hq => hq.elim))
          have HGP7 := Lib.hid (show Blk w7 gp #[pt p.x, pt p.y] 81 from (Blk.keep HGP.out.1 hk7 (fun hq => hq)).1)
          have HZ := Lib.hid (ow_rd hz1)
          clear hk7 hb7 hz1 HW6 HB6 HGP p0 p1 c0 HD
          generalize tagged w6 o6 27 = o7 at HW7 HB7 HZ
          have p0 : w7.cell? ⟨gp, 0, none⟩ = some (pt p.x) := Blk.cell (i := 0) HGP7.out rfl
          have p1 : w7.cell? ⟨gp, 1, none⟩ = some (pt p.y) := Blk.cell (i := 1) HGP7.out rfl
          cases he : encS msgTab (fldM (⟨o.m0, o.m1, o.m2, o.m3, o.mx⟩ : S35)) with
          | error q =>
           have hq : q ≠ 0 := by rcases Go.Proofs.Ytpflenaoplblkaa.ProBa.enc_err_code he with rfl | rfl <;> decide
           have hq1 : (q != 0) = true := by simpa using hq
           have hq2 : decide (q = 0) = false := by simpa using hq
           have hq3 : (q == 0) = false := by simpa using hq
           clear he HZ hq
           simp only [encC, Sl.enc]
           go_wp2_with fail
           go_ret
           exact ⟨rfl, o7, s, h, HW7.out, HG.out.mono (by omega), HB7.out.kp⟩
          | ok bs =>
           have hfl := (Go.Proofs.Ytpflenaoplblkaa.ProBa.enc_facts he Go.Proofs.Ytpflenaoplblkaa.ProN.msgTab_ok Go.Proofs.Ytpflenaoplblkaa.ProBa.msg3 (by decide) HB7.out.ok.um).1
           have hcl := (cutS_some (Go.Proofs.Ytpflenaoplblkaa.ProZ.enc_cut he Go.Proofs.Ytpflenaoplblkaa.ProZ.msgTab_back [])).2.2
           have HZ2 : Hid (Rd u8K w7 o7 27 z1 bs) := Lib.hid (by have := HZ.out; rw [he] at this; exact this)
           have HUB := Lib.hid hfl
           clear he HZ hfl
           simp only [encC, Sl.enc]
           go_wp2_with (go_at_call 33; refine Calls.mono (feeds_ok w7 g 27 o7 s h HW7.out HM.out k p HP.out z1 bs HZ2.out (.inr rfl) HUB.out (by omega) HG.out.cl hTl) ?_; rintro e w8 ⟨rfl, o8, s7, L, E, D, cs, l, c, ms, hw7, hc7, hm7, hD7, hx7, hL7, hE7, hEx7, hk7⟩)
           go_ret
           exact ⟨rfl, o8, s7, _, hw7, HG.out.fed hc7 hm7 hD7 hx7 hL7 hE7 hEx7, HB7.out.kp.trans hk7⟩
         ·
          have d8 : decide (o.kd = 8) = false := by simp [k8]
          have d8' : (o.kd == 8) = false := by simp [k8]
          go_wp2_with fail
          go_ret
          exact ⟨rfl, o6, s, h, HW6.out, HG.out.mono (by omega), HB6.out.kp⟩
end Go.Proofs.Ytpflenaoplblkaa.PcB
end
