import Derived.Test.YtpflenaoplblkaaGAl
import Derived.Test.YtpflenaoplblkaaGAe
section
namespace Go.Proofs.Ytpflenaoplblkaa.PaO
open Go.RowKit YtpflenaoplblkaaW.PrintWords YtpflenaoplblkaaW.PrintLast ProA ProB ProC ProI ProD ProG ProJ ProK ProL ProM ProN ProO ProP ProQ ProR ProU ProZ ProBb PaA
open ProH (msgTab repTab ba)
open ProS PaI PaJ PaK PaL
open PaM PaN
set_option linter.unusedVariables false
set_option linter.unusedSimpArgs false
theorem info27 : (Try.prog.info? 27).map (fun i => (i.zero, i.size, i.bytes)) = some (some (.slice none 0 0), 1, 24) := by kernel_rfl
theorem info41 : (Try.prog.info? 41).map (fun i => (i.zero, i.size, i.bytes)) = some (some (.slice none 0 0), 1, 24) := by kernel_rfl
theorem mc_at {w : World} {A : Option Addr} {n : Nat} {xs : List MC} (h : mcK.C w A n xs) (j : Nat) (hj : j < n) (x : MC) (hx : xs[j]? = some x) : ∃ ad, A = some ad ∧ w.cell? (ad.add (j * 5)) = some (.int .i64 x.f0) ∧ w.cell? ⟨(ad.add (j * 5)).block, (ad.add (j * 5)).off + 1, none⟩ = some (.int .i64 x.f1) ∧ w.cell? ⟨(ad.add (j * 5)).block, (ad.add (j * 5)).off + 2, none⟩ = some (.string x.f2) ∧ w.cell? ⟨(ad.add (j * 5)).block, (ad.add (j * 5)).off + 3, none⟩ = some (.int .i64 x.f3) ∧ w.cell? ⟨(ad.add (j * 5)).block, (ad.add (j * 5)).off + 4, none⟩ = some x.d.enc := by
 obtain ⟨ad, c, e, _, hK, hc0⟩ := Kd.C_get h x (j : Int) (by omega) (by omega)
 rw [Int.toNat_natCast, List.getD_eq_getElem?_getD, hx] at hK
 have hK' : c = x.cells := hK
 subst hK'
 have hc : ∀ i u, x.cells[i]? = some u → w.cell? (ad.add (j * 5 + i)) = some u := hc0
 exact ⟨ad, e, hc 0 _ rfl, by rw [← add_field _ _ 1 (by omega)]; exact hc 1 _ rfl, by rw [← add_field _ _ 2 (by omega)]; exact hc 2 _ rfl, by rw [← add_field _ _ 3 (by omega)]; exact hc 3 _ rfl, by rw [← add_field _ _ 4 (by omega)]; exact hc 4 _ rfl⟩
theorem rc_at {w : World} {A : Option Addr} {n : Nat} {xs : List RC} (h : rcK.C w A n xs) (j : Nat) (hj : j < n) (x : RC) (hx : xs[j]? = some x) : ∃ ad, A = some ad ∧ w.cell? (ad.add (j * 4)) = some (.int .i64 x.f0) ∧ w.cell? ⟨(ad.add (j * 4)).block, (ad.add (j * 4)).off + 1, none⟩ = some (.int .i64 x.f1) ∧ w.cell? ⟨(ad.add (j * 4)).block, (ad.add (j * 4)).off + 2, none⟩ = some (.int .i64 x.f2) ∧ w.cell? ⟨(ad.add (j * 4)).block, (ad.add (j * 4)).off + 3, none⟩ = some x.d.enc := by
 obtain ⟨ad, c, e, _, hK, hc0⟩ := Kd.C_get h x (j : Int) (by omega) (by omega)
 rw [Int.toNat_natCast, List.getD_eq_getElem?_getD, hx] at hK
 have hK' : c = x.cells := hK
 subst hK'
 have hc : ∀ i u, x.cells[i]? = some u → w.cell? (ad.add (j * 4 + i)) = some u := hc0
 exact ⟨ad, e, hc 0 _ rfl, by rw [← add_field _ _ 1 (by omega)]; exact hc 1 _ rfl, by rw [← add_field _ _ 2 (by omega)]; exact hc 2 _ rfl, by rw [← add_field _ _ 3 (by omega)]; exact hc 3 _ rfl⟩
structure TkSt (w : World) (own : Nat → Nat) (g : Nat) (s : St) (h : Gh) (D : List (Sl × List Int)) (wr : World) (j : Nat) (o : Nat → Nat) (v0 v1 : Sl) (cs : List (Sl × List Int)) : Prop where
 inv : WInv wr g o { s with f0 := v0, f1 := v1 } { h with F := h.F ++ D.take j, C := h.C ++ cs }
 kp : Kp (fun q => q % 32 = 1 ∨ q = 2 ∨ q = 3 ∨ q = 5) w own wr o
 same : cs.map (·.2) = (D.take j).map (·.2)
 rest : ∀ i p, j ≤ i → D[i]? = some p → Ow u8K 5 wr o (32 * i + 1) p.1 p.2
theorem tk_len {w : World} {own : Nat → Nat} {g : Nat} {s : St} {h : Gh} {D : List (Sl × List Int)} {wr : World} {j : Nat} {o : Nat → Nat} {v0 v1 : Sl} {cs : List (Sl × List Int)} (H : TkSt w own g s h D wr j o v0 v1 cs) (hj : j ≤ D.length) : cs.length = j := by
 have := congrArg List.length H.same
 simp at this
 omega
theorem tk_step {w : World} {own : Nat → Nat} {g : Nat} {s : St} {h : Gh} {D : List (Sl × List Int)} {wr w2 : World} {j : Nat} {o o2 : Nat → Nat} {v0 v1 v2 v3 c : Sl} {cs : List (Sl × List Int)} {p : Sl × List Int} (H : TkSt w own g s h D wr j o v0 v1 cs) (hp : D[j]? = some p)
  (hi : WInv w2 g o2 { s with f0 := v2, f1 := v3 } { h with F := (h.F ++ D.take j) ++ [(p.1, p.2)], C := (h.C ++ cs) ++ [(c, p.2)] }) (hk : Kp (fun q => q = 32 * j + 1 ∨ q = 2 ∨ q = 3 ∨ q = 5) wr o w2 o2) : TkSt w own g s h D w2 (j + 1) o2 v2 v3 (cs ++ [(c, p.2)]) := by
 have ht : D.take (j + 1) = D.take j ++ [p] := by rw [List.take_add_one, hp]; rfl
 refine ⟨by rw [ht, ← List.append_assoc, ← List.append_assoc]; exact hi, H.kp.trans (hk.mono (fun q hq => by omega)), ?_, fun i q hi' hq => Ow.keep (H.rest i q (by omega) hq) hk (by (intro hq; first | omega | (dsimp only at hq; omega) | (dsimp only at hq; done)))⟩
 rw [ht, List.map_append, List.map_append, H.same]
 rfl
set_option maxHeartbeats 2000000 in
set_option maxRecDepth 100000 in
theorem takeMessages_ok (w : World) (g : Nat) (own : Nat → Nat) (s : St) (h : Gh) (l : Sl) (ms : List MC) (D : List (Sl × List Int)) (H : WInv w g own s h) (hl : Ow mcK 35 w own 25 l ms) (hd : ∀ i p, D[i]? = some p → Ow u8K 5 w own (32 * i + 1) p.1 p.2) (hm : ms.map (·.d) = D.map (·.1)) (hx : ∀ p ∈ D, p.2.length ≤ 5000000000000) (hn : h.F.length + D.length ≤ 5000000000000) (hc : h.C.length = h.F.length) (hT : h.T.length ≤ 5000000000000) (hU : h.U.length ≤ 5000000000000) (hms : ms.length ≤ 2000000000000) :
  Calls Try.prog 60 #[pt g, l.enc] w fun e w' => e = .returned (.tuple #[]) ∧ ∃ own' v0 v1 v2 v3 cs c, cs.map (·.2) = D.map (·.2) ∧ WInv w' g own' { s with f0 := v0, f1 := v1, t0 := v2, t1 := v3 } { h with F := h.F ++ D, C := h.C ++ cs, T := h.T ++ [(l, ms)], U := h.U ++ [(c, ms)] } ∧ Kp (fun q => q % 32 = 1 ∨ q = 25 ∨ q = 2 ∨ q = 3 ∨ q = 5 ∨ q = 6 ∨ q = 8) w own w' own' := by
 have hnl : l.n = ms.length := (ow_len hl).1.symm
 have hdl : D.length = ms.length := by have := congrArg List.length hm; simpa using this.symm
 obtain ⟨A, N, cc⟩ := l
 obtain rfl : N = ms.length := hnl
 have HW := Lib.hid H
 have HL := Lib.hid hl
 have HD := Lib.hid hd
 have HM := Lib.hid hm
 have HX := Lib.hid hx
 have HN := Lib.hid hn
 clear H hl hd hm hx hn
 go_enter Try.func60, Try.ntmps60
 go_wp2_with fail
 simp only [Sl.enc]
 go_loopw [4] (fun i wr => ∃ (j : Nat) (o : Nat → Nat) (v0 v1 : Sl) (cs : List (Sl × List Int)), j ≤ ms.length ∧ i = .int .i64 (j : Int) ∧ Hid (TkSt w own g s h D wr j o v0 v1 cs)) (fun i _ => ms.length - (intOf i).toNat)
 case atStart => exact ⟨0, own, s.f0, s.f1, [], by omega, rfl, Lib.hid ⟨by simpa using HW.out, Kp.refl _ _ _, by simp, fun i p _ hp => HD.out i p hp⟩⟩
 case round =>
  obtain ⟨j, o, v0, v1, cs, hj, rfl, HS⟩ := hrel
  by_cases hlt : j < ms.length
  ·
   have dl : decide ((j : Int) < (ms.length : Int)) = true := by simp; omega
   have hl' := Ow.keep HL.out HS.out.kp (by (intro hq; first | omega | (dsimp only at hq; omega) | (dsimp only at hq; done)))
   obtain ⟨p, hp⟩ : ∃ p, D[j]? = some p := ⟨D[j], List.getElem?_eq_getElem (by omega)⟩
   have hmd : ms[j].d = p.1 := by
    have h1 := congrArg (fun z => z[j]?) HM.out
    simp only [List.getElem?_map, hp, List.getElem?_eq_getElem hlt, Option.map_some] at h1
    exact Option.some.inj h1
   obtain ⟨ad, hA, kk⟩ := mc_at (ow_len hl').2.2 j hlt ms[j] (List.getElem?_eq_getElem hlt)
   have hA' : A = some ad := hA
   subst hA'
   have kd := kk.2.2.2.2
   rw [hmd] at kd
   have HP := Lib.hid hp
   clear kk hA hl' hmd hp
   have hxp : p.2.length ≤ 5000000000000 := HX.out p (List.mem_of_getElem? HP.out)
   have hcl : cs.length = j := tk_len HS.out (by omega)
   have htk : (D.take j).length = j := by rw [List.length_take]; omega
   have HCL := Lib.hid hcl
   have HTK := Lib.hid htk
   clear hcl htk
   have hok := take_ok wr g (32 * j + 1) o _ _ p.1 p.2 HS.out.inv (HS.out.rest j p (Nat.le_refl _) HP.out) (.inl (by omega)) (by have := HN.out; have := HTK.out; simp; omega) (by have := HCL.out; have := HTK.out; simp; omega) hxp
   have HOK := Lib.hid hok
   clear hok
   simp only [Sl.enc] at kd
   go_wp2_with (refine HOK.out.mono ?_; rintro e w2 ⟨rfl, o2, v2, v3, c, hi2, hk2⟩)
   have HS2 := Lib.hid (tk_step HS.out HP.out hi2 hk2)
   clear hi2 hk2 HOK
   go_wp2_with fail
   refine ⟨⟨j + 1, o2, v2, v3, _, by omega, by go_num, HS2⟩, by simp [intOf]; omega⟩
  ·
   obtain rfl : j = ms.length := by omega
   have dl : decide (((ms.length : Nat) : Int) < (ms.length : Int)) = false := by simp
   have hfull : D.take ms.length = D := List.take_of_length_le (by omega)
   have hin := HS.out.inv
   have hcsm := HS.out.same
   rw [hfull] at hin hcsm
   have hkr := Kp.ret wr o 25 (32 * h.T.length + 7)
   have hl' := Ow.ret (Ow.keep HL.out HS.out.kp (by (intro hq; first | omega | (dsimp only at hq; omega) | (dsimp only at hq; done)))) (32 * h.T.length + 7)
   have HI := Lib.hid (hin.keep (hkr.mono (fun q hq => by subst hq; exact .inr (by decide))))
   have HKR := Lib.hid hkr
   have HLL := Lib.hid hl'
   have HCS := Lib.hid hcsm
   generalize ret o 25 (32 * h.T.length + 7) = o0 at HI HLL HKR
   clear hkr hl' hin hcsm hfull
   have k0 : wr.cell? ⟨g, 3, none⟩ = some s.t0.enc := Blk.cell (i := 3) HI.out.blk rfl
   go_wp2_with fail
   simp only [show Value.slice A ms.length cc = (Sl.mk A ms.length cc).enc from rfl]
   have HB1 := Lib.hid HI.out.blk
   have HG01 := Lib.hid HI.out.og
   refine start_ (n := 13) (S := fun w' => w'.cell? ⟨g, 3, none⟩ = some s.t0.enc) (ds := [8, 12]) #[false, false, false, false, false, false, false, false, false, false, false, false, false] (by kernel_rfl) rfl rfl k0 (fun hHeld => ?_)
   refine pu_ (i := 0) (N := some 18) (v := ?_) (a' := ?_) rfl rfl (by kernel_rfl) (fun _ _ _ h => h) (by rfl) ?_ ?_ ?_
   rotate_left
   · (intro w'; go_simp; with_reducible rfl)
   rotate_left
   · (simp only [put_s, List.set, i64_w, i32_w]; rfl)
   refine pu_ (i := 1) (N := some 19) (v := ?_) (a' := ?_) rfl rfl (by kernel_rfl) (fun _ _ _ h => h) (by rfl) ?_ ?_ ?_
   rotate_left
   · (intro w'; go_simp; with_reducible rfl)
   rotate_left
   · (simp only [put_s, List.set, i64_w, i32_w]; rfl)
   refine pu_ (i := 2) (N := some 20) (v := ?_) (a' := ?_) rfl rfl (by kernel_rfl) (fun _ _ _ h => h) (by rfl) ?_ ?_ ?_
   rotate_left
   · (intro w'; go_simp; with_reducible rfl)
   rotate_left
   · (simp only [put_s, List.set, i64_w, i32_w]; rfl)
   refine pu_ (i := 3) (N := some 21) (v := ?_) (a' := ?_) rfl rfl (by kernel_rfl) (fun _ _ _ h => h) (by rfl) ?_ ?_ ?_
   rotate_left
   · (intro w'; go_simp; with_reducible rfl)
   rotate_left
   · (simp only [put_s, List.set, i64_w, i32_w]; rfl)
   refine pu_ (i := 4) (N := some 22) (v := ?_) (a' := ?_) rfl rfl (by kernel_rfl) (fun _ _ _ h => h) (by rfl) ?_ ?_ ?_
   rotate_left
   · (intro w'; go_simp; with_reducible rfl)
   rotate_left
   · (simp only [put_s, List.set, i64_w, i32_w]; rfl)
   refine tk_ (i := 5) (N := some 23) (v := ?_) (a' := ?_) rfl rfl (by kernel_rfl) (fun _ _ _ h => h) (by rfl) ?_ hHeld ?_ ?_
   rotate_left
   · (intro w' s0; go_simp; with_reducible rfl)
   rotate_left
   · (simp only [put_s, List.set, i64_w, i32_w]; rfl)
   refine pu_ (i := 6) (N := some 24) (v := ?_) (a' := ?_) rfl rfl (by kernel_rfl) (fun _ _ _ h => h) (by rfl) ?_ ?_ ?_
   rotate_left
   · (intro w'; go_simp; with_reducible rfl)
   rotate_left
   · (simp only [put_s, List.set, i64_w, i32_w]; rfl)
   refine pu_ (i := 9) (N := some 27) (v := ?_) (a' := ?_) rfl rfl (by kernel_rfl) (fun _ _ _ h => h) (by rfl) ?_ ?_ ?_
   rotate_left
   · (intro w'; go_simp; with_reducible rfl)
   rotate_left
   · (simp only [put_s, List.set, i64_w, i32_w]; rfl)
   refine pu_ (i := 10) (N := some 28) (v := ?_) (a' := ?_) rfl rfl (by kernel_rfl) (fun _ _ _ h => h) (by rfl) ?_ ?_ ?_
   rotate_left
   · (intro w'; go_simp; with_reducible rfl)
   rotate_left
   · (simp only [put_s, List.set, i64_w, i32_w]; rfl)
   refine on_ (i := 7) (N := some 25) rfl rfl (by kernel_rfl) (by decide) (fun K hK => ?_)
   refine value_ (v := .slice (some ⟨(wr.drew).heap.size, 0, none⟩) 1 1) (w1 := (wr.drew).alloc (.cells #[(Sl.mk A ms.length cc).enc] 27)) (by rfl) rfl (by simp only [Sl.enc]; go_simp) ?_
   refine hK.out _ _ ((World.cell?_alloc_lt _ _ _ (World.block_lt_of_cell? _ _ hHeld)).trans hHeld) (fun hHeld => ?_)
   clear hK K
   refine norm_ (a' := ?_) ?_ ?_
   rotate_left
   ·
    show Act.put _ (some 25) _ = _
    simp only [put_s, List.set, i64_w, i32_w]
    rfl
   refine la_ (i := 8) (N := some 26) rfl rfl (by kernel_rfl) (by decide) (fun K hK => ?_)
   refine Kd.R_append_step slK (w0 := wr) 0 (by rfl) (.tmp 23) (.tmp 25) 55 27 (.slice none 0 0) 24 rfl Try.underlying55 info27 rfl (by decide) (by decide) s.t0.enc (h.T.map (·.1)) (Sl.mk A ms.length cc) [(Sl.mk A ms.length cc).enc] (fun k => tagged wr o0 6 k = 6) (fun _ => False) rfl rfl rfl (fun _ hk => hk.elim) (fun q hq => tagged_new (by have hz : (wr).heap.size ≤ q := hq; exact hz)) (Ow.alloc HI.out.t0.1 (Below.drew (Below.refl _ _))) (Below.drew (Below.refl 0 _)) (Nat.zero_le _) (by simp; omega) ?_
   intro v1 w1 ho hb hg hat
   obtain ⟨s1, rfl, ho', hk'⟩ := Ow.pushed HI.out.t0.1 (Below.drew (Below.refl _ _)) ho hg
   clear ho hb hg hat
   have hbb := Blk.keep (HB1.out) hk' (by rw [HI.out.og]; decide)
   have HBK1 := Lib.hid hbb.1
   have HG1 := Lib.hid (hbb.2.trans HI.out.og)
   have HO1 := Lib.hid ho'
   have HK1 := Lib.hid hk'
   have c1 := Blk.cell (i := 3) hbb.1 rfl
   have z1 := Blk.frozen (i := 3) hbb.1
   clear ho' hk' hbb HB1
   refine hK.out _ _ ?_
   clear hK K
   refine norm_ (a' := ?_) ?_ ?_
   rotate_left
   ·
    show Act.put _ (some 26) _ = _
    simp only [put_s, List.set, i64_w, i32_w]
    rfl
   refine pu_ (i := 11) (N := some 29) (v := ?_) (a' := ?_) rfl rfl (by kernel_rfl) (fun _ _ _ h => h) (by rfl) ?_ ?_ ?_
   rotate_left
   · (intro w'; go_simp; with_reducible rfl)
   rotate_left
   · (simp only [put_s, List.set, i64_w, i32_w]; rfl)
   refine la_ (i := 12) (N := none) rfl rfl (by kernel_rfl) (by decide) (fun K hK => ?_)
   refine skip_ (w1 := w1.setCell ⟨g, 3, none⟩ s1.enc) (by rfl) rfl (by simp only [Sl.enc]; go_simp) ?_
   refine hK.out _ _ ?_
   clear hK K
   refine done_ (by kernel_rfl) ?_
   clear c1 z1
   obtain ⟨hb', hk', ho'⟩ := push_end 3 HBK1.out HK1.out HO1.out HG01.out (by decide)
   have HBS1 := Lib.hid hb'
   have HKS1 := Lib.hid hk'
   have HOS1 := Lib.hid ho'
   have HGS1 := Lib.hid HG1.out
   clear hb' hk' ho' HBK1 HK1 HO1 HG1 HG01
   generalize w1.setCell ⟨g, 3, none⟩ s1.enc = W1 at *
   have HF1 := Lib.hid (Ow.keep HI.out.t1.1 HKS1.out (by (intro hq; first | omega | (dsimp only at hq; omega) | (dsimp only at hq; done))))
   have HX1 := Lib.hid ((Rd.keep mcK_K (by decide) (ow_rd HLL.out) HKS1.out (by (intro hq; first | omega | (dsimp only at hq; omega) | (dsimp only at hq; done)))).1)
   have k1 : W1.cell? ⟨g, 4, none⟩ = some s.t1.enc := Blk.cell (i := 4) HBS1.out rfl
   go_wp2_with fail
   have HB02 := Lib.hid HBS1.out
   have HG02 := Lib.hid HGS1.out
   have HX2 := Lib.hid HX1.out
   refine start_ (n := 15) (S := fun w' => w'.cell? ⟨g, 4, none⟩ = some s.t1.enc) (ds := [10, 14]) #[false, false, false, false, false, false, false, false, false, false, false, false, false, false, false] (by kernel_rfl) rfl rfl k1 (fun hHeld => ?_)
   refine pu_ (i := 0) (N := some 30) (v := ?_) (a' := ?_) rfl rfl (by kernel_rfl) (fun _ _ _ h => h) (by rfl) ?_ ?_ ?_
   rotate_left
   · (intro w'; go_simp; with_reducible rfl)
   rotate_left
   · (simp only [put_s, List.set, i64_w, i32_w]; rfl)
   refine pu_ (i := 1) (N := some 31) (v := ?_) (a' := ?_) rfl rfl (by kernel_rfl) (fun _ _ _ h => h) (by rfl) ?_ ?_ ?_
   rotate_left
   · (intro w'; go_simp; with_reducible rfl)
   rotate_left
   · (simp only [put_s, List.set, i64_w, i32_w]; rfl)
   refine pu_ (i := 2) (N := some 32) (v := ?_) (a' := ?_) rfl rfl (by kernel_rfl) (fun _ _ _ h => h) (by rfl) ?_ ?_ ?_
   rotate_left
   · (intro w'; go_simp; with_reducible rfl)
   rotate_left
   · (simp only [put_s, List.set, i64_w, i32_w]; rfl)
   refine pu_ (i := 3) (N := some 33) (v := ?_) (a' := ?_) rfl rfl (by kernel_rfl) (fun _ _ _ h => h) (by rfl) ?_ ?_ ?_
   rotate_left
   · (intro w'; go_simp; with_reducible rfl)
   rotate_left
   · (simp only [put_s, List.set, i64_w, i32_w]; rfl)
   refine pu_ (i := 4) (N := some 34) (v := ?_) (a' := ?_) rfl rfl (by kernel_rfl) (fun _ _ _ h => h) (by rfl) ?_ ?_ ?_
   rotate_left
   · (intro w'; go_simp; with_reducible rfl)
   rotate_left
   · (simp only [put_s, List.set, i64_w, i32_w]; rfl)
   refine tk_ (i := 5) (N := some 35) (v := ?_) (a' := ?_) rfl rfl (by kernel_rfl) (fun _ _ _ h => h) (by rfl) ?_ hHeld ?_ ?_
   rotate_left
   · (intro w' s0; go_simp; with_reducible rfl)
   rotate_left
   · (simp only [put_s, List.set, i64_w, i32_w]; rfl)
   refine pu_ (i := 7) (N := some 37) (v := ?_) (a' := ?_) rfl rfl (by kernel_rfl) (fun _ _ _ h => h) (by rfl) ?_ ?_ ?_
   rotate_left
   · (intro w'; go_simp; with_reducible rfl)
   rotate_left
   · (simp only [put_s, List.set, i64_w, i32_w]; rfl)
   refine pu_ (i := 11) (N := some 41) (v := ?_) (a' := ?_) rfl rfl (by kernel_rfl) (fun _ _ _ h => h) (by rfl) ?_ ?_ ?_
   rotate_left
   · (intro w'; go_simp; with_reducible rfl)
   rotate_left
   · (simp only [put_s, List.set, i64_w, i32_w]; rfl)
   refine pu_ (i := 12) (N := some 42) (v := ?_) (a' := ?_) rfl rfl (by kernel_rfl) (fun _ _ _ h => h) (by rfl) ?_ ?_ ?_
   rotate_left
   · (intro w'; go_simp; with_reducible rfl)
   rotate_left
   · (simp only [put_s, List.set, i64_w, i32_w]; rfl)
   refine on_ (i := 6) (N := some 36) rfl rfl (by kernel_rfl) (by decide) (fun K hK => ?_)
   refine Kd.R_lit_step mcK (w0 := W1) (W1).heap.size 35 (by rfl) rfl (xs := []) (inner := []) (ok := fun _ => True) (okp := fun _ => True) (by go_simp) ⟨rfl, fun j p hj => by simp at hj⟩ (fun _ _ => trivial) trivial (Below.drew (Below.refl _ _)) (Nat.le_refl _) (by decide) ?_
   intro v2a w2a hra hba hga hata
   have hHeld := (Kp.cellOf (own := (tagged wr o0 6)) hba hHeld)
   refine hK.out _ _ hHeld (fun hHeld => ?_)
   clear hK K
   refine norm_ (a' := ?_) ?_ ?_
   rotate_left
   ·
    show Act.put _ (some 36) _ = _
    simp only [put_s, List.set, i64_w, i32_w]
    rfl
   refine on_ (i := 8) (N := some 38) rfl rfl (by kernel_rfl) (by decide) (fun K hK => ?_)
   refine Kd.R_append_rows_step mcK (Rr := mcK.K _) (w0 := W1) (W1).heap.size (by rfl) (.tmp 36) (.tmp 37) 27 35 (.agg #[.int .i64 0, .int .i64 0, .string ⟨#[]⟩, .int .i64 0, .slice none 0 0]) 64 rfl Try.underlying27 info35 rfl (by decide) (by decide) v2a [] ms (Sl.mk A ms.length cc).A (Sl.mk A ms.length cc).n (Sl.mk A ms.length cc).c (fun _ => True) (fun _ => False) rfl rfl hra (Kd.C_below HX2.out hba) (fun _ _ hh => hh) (fun _ hk => hk.elim) (fun _ _ => trivial) hba hba.size (by simp; omega) ?_
   intro v2b w2b hrb hbb hgb hatb
   obtain ⟨A2b, c2b, hv2b, _, _⟩ := Kd.R_reads hrb
   rw [List.nil_append] at hrb hv2b
   clear hra hba hga hata hgb hatb
   obtain ⟨y2, rfl⟩ : ∃ y : Sl, v2b = y.enc := ⟨⟨A2b, _, c2b⟩, hv2b⟩
   clear hv2b
   have HY2 := Lib.hid (ow_new (own := (tagged wr o0 6)) 0 hrb)
   have HKB2 := Lib.hid (Kp.below (ts := fun _ => False) (own := (tagged wr o0 6)) hbb 0)
   clear hrb
   have hHeld := (Kp.cellOf (own := (tagged wr o0 6)) hbb (show (W1).cell? _ = _ from k1))
   clear hbb
   refine hK.out _ _ hHeld (fun hHeld => ?_)
   clear hK K
   refine norm_ (a' := ?_) ?_ ?_
   rotate_left
   ·
    show Act.put _ (some 38) _ = _
    simp only [put_s, List.set, i64_w, i32_w]
    rfl
   refine on_ (i := 9) (N := some 39) rfl rfl (by kernel_rfl) (by decide) (fun K hK => ?_)
   refine value_ (v := .slice (some ⟨(w2b).heap.size, 0, none⟩) 1 1) (w1 := (w2b).alloc (.cells #[y2.enc] 27)) (by rfl) rfl (by simp only [Sl.enc]; go_simp) ?_
   refine hK.out _ _ ((World.cell?_alloc_lt _ _ _ (World.block_lt_of_cell? _ _ hHeld)).trans hHeld) (fun hHeld => ?_)
   clear hK K
   refine norm_ (a' := ?_) ?_ ?_
   rotate_left
   ·
    show Act.put _ (some 39) _ = _
    simp only [put_s, List.set, i64_w, i32_w]
    rfl
   refine la_ (i := 10) (N := some 40) rfl rfl (by kernel_rfl) (by decide) (fun K hK => ?_)
   have hbx := Blk.keep HB02.out HKB2.out (by intro hq; exact hq)
   have HB2 := Lib.hid hbx.1
   have HGB2 := Lib.hid (hbx.2.trans HG02.out)
   have HRB2 := Lib.hid (Ow.keep HF1.out HKB2.out (by intro hq; exact hq))
   clear hbx
   refine Kd.R_append_step slK (w0 := w2b) 0 (by rfl) (.tmp 35) (.tmp 39) 55 27 (.slice none 0 0) 24 rfl Try.underlying55 info27 rfl (by decide) (by decide) s.t1.enc (h.U.map (·.1)) y2 [y2.enc] (fun k => tagged w2b (tagged W1 (tagged wr o0 6) 0) 8 k = 8) (fun _ => False) rfl rfl rfl (fun _ hk => hk.elim) (fun q hq => tagged_new (by have hz : (w2b).heap.size ≤ q := hq; exact hz)) (Ow.alloc HRB2.out (Below.refl _ _)) (Below.refl 0 _) (Nat.zero_le _) (by simp; omega) ?_
   intro v2 w2 ho hb hg hat
   obtain ⟨s2, rfl, ho', hk'⟩ := Ow.pushed HRB2.out (Below.refl _ _) ho hg
   clear ho hb hg hat
   have hbb := Blk.keep (HB2.out) hk' (by rw [HGB2.out]; decide)
   have HBK2 := Lib.hid hbb.1
   have HG2 := Lib.hid (hbb.2.trans HGB2.out)
   have HO2 := Lib.hid ho'
   have HK2 := Lib.hid hk'
   have c2 := Blk.cell (i := 4) hbb.1 rfl
   have z2 := Blk.frozen (i := 4) hbb.1
   clear ho' hk' hbb HB2
   refine hK.out _ _ ?_
   clear hK K
   refine norm_ (a' := ?_) ?_ ?_
   rotate_left
   ·
    show Act.put _ (some 40) _ = _
    simp only [put_s, List.set, i64_w, i32_w]
    rfl
   refine pu_ (i := 13) (N := some 43) (v := ?_) (a' := ?_) rfl rfl (by kernel_rfl) (fun _ _ _ h => h) (by rfl) ?_ ?_ ?_
   rotate_left
   · (intro w'; go_simp; with_reducible rfl)
   rotate_left
   · (simp only [put_s, List.set, i64_w, i32_w]; rfl)
   refine la_ (i := 14) (N := none) rfl rfl (by kernel_rfl) (by decide) (fun K hK => ?_)
   refine skip_ (w1 := w2.setCell ⟨g, 4, none⟩ s2.enc) (by rfl) rfl (by simp only [Sl.enc]; go_simp) ?_
   refine hK.out _ _ ?_
   clear hK K
   refine done_ (by kernel_rfl) ?_
   clear c2 z2
   obtain ⟨hb', hk', ho'⟩ := push_end 4 HBK2.out HK2.out HO2.out HGB2.out (by decide)
   have HBS2 := Lib.hid hb'
   have HKS2 := Lib.hid hk'
   have HOS2 := Lib.hid ho'
   have HGS2 := Lib.hid HG2.out
   clear hb' hk' ho' HBK2 HK2 HO2 HG2 HGB2 HRB2 HX2 HB02 HG02
   generalize w2.setCell ⟨g, 4, none⟩ s2.enc = W2 at *
   go_wp2_with fail
   try go_end0
   have hk12 : Kp (fun q => q = 2 ∨ q = 6 ∨ q = 8) wr o0 W2 (tagged w2b (tagged W1 (tagged wr o0 6) 0) 8) := ((HKS1.out.mono (fun q hq => by omega)).trans (HKB2.out.mono (fun q hq => hq.elim))).trans (HKS2.out.mono (fun q hq => by omega))
   have hW := HI.out
   have hl2 := Ow.keep HLL.out hk12 (by (intro hq; first | omega | (dsimp only at hq; omega) | (dsimp only at hq; done)))
   have hb : Blk W2 g ({ s with f0 := v0, f1 := v1, t0 := s1, t1 := s2 } : St).cells 61 := HBS2.out
   have hf : PO mcK 35 27 6 7 W2 (tagged w2b (tagged W1 (tagged wr o0 6) 0) 8) s1 (h.T ++ [(⟨A, ms.length, cc⟩, ms)]) := PO.snoc (Ow.keep (Ow.keep HOS1.out HKB2.out (by (intro hq; first | omega | (dsimp only at hq; omega) | (dsimp only at hq; done)))) HKS2.out (by (intro hq; first | omega | (dsimp only at hq; omega) | (dsimp only at hq; done)))) (fun i p hp => Ow.keep (hW.t0.2 i p hp) hk12 (by (intro hq; first | omega | (dsimp only at hq; omega) | (dsimp only at hq; done)))) hl2
   have hcc : PR mcK 27 8 W2 (tagged w2b (tagged W1 (tagged wr o0 6) 0) 8) s2 (h.U ++ [(y2, ms)]) := PR.snoc HOS2.out (fun p hp => Rd.keep mcK_K (by decide) (hW.t1.2 p hp) hk12 (by (intro hq; first | omega | (dsimp only at hq; omega) | (dsimp only at hq; done)))) (Rd.keep mcK_K (by decide) (ow_rd HY2.out) HKS2.out (by (intro hq; first | omega | (dsimp only at hq; omega) | (dsimp only at hq; done))))
   refine ⟨rfl, _, v0, v1, s1, s2, cs, y2, HCS.out, ?_, ((HS.out.kp.mono (fun q hq => by omega)).trans (HKR.out.mono (fun q hq => by omega))).trans (hk12.mono (fun q hq => by omega))⟩
   constructor <;> (first | assumption | (have q := (Blk.keep (WInv.blk hW) hk12 (by rw [WInv.og hW]; (intro hq; first | omega | (dsimp only at hq; omega) | (dsimp only at hq; done)))).1; exact q) | (have q := (Blk.keep (WInv.blk hW) hk12 (by rw [WInv.og hW]; (intro hq; first | omega | (dsimp only at hq; omega) | (dsimp only at hq; done)))).2.trans (WInv.og hW); exact q) | (have q := PL.keep (WInv.l hW) hk12 (by (intro hq; first | omega | (dsimp only at hq; omega) | (dsimp only at hq; done))) (fun i => by (intro hq; first | omega | (dsimp only at hq; omega) | (dsimp only at hq; done))) (fun i => by (intro hq; first | omega | (dsimp only at hq; omega) | (dsimp only at hq; done))); exact q) | (have q := PO.keep (WInv.f0 hW) hk12 (by (intro hq; first | omega | (dsimp only at hq; omega) | (dsimp only at hq; done))) (fun i => by (intro hq; first | omega | (dsimp only at hq; omega) | (dsimp only at hq; done))); exact q) | (have q := PR.keep u8K_K (by decide) (WInv.f1 hW) hk12 (by (intro hq; first | omega | (dsimp only at hq; omega) | (dsimp only at hq; done))) (by (intro hq; first | omega | (dsimp only at hq; omega) | (dsimp only at hq; done))); exact q) | (have q := PO.keep (WInv.t0 hW) hk12 (by (intro hq; first | omega | (dsimp only at hq; omega) | (dsimp only at hq; done))) (fun i => by (intro hq; first | omega | (dsimp only at hq; omega) | (dsimp only at hq; done))); exact q) | (have q := PR.keep mcK_K (by decide) (WInv.t1 hW) hk12 (by (intro hq; first | omega | (dsimp only at hq; omega) | (dsimp only at hq; done))) (by (intro hq; first | omega | (dsimp only at hq; omega) | (dsimp only at hq; done))); exact q) | (have q := PO.keep (WInv.a0 hW) hk12 (by (intro hq; first | omega | (dsimp only at hq; omega) | (dsimp only at hq; done))) (fun i => by (intro hq; first | omega | (dsimp only at hq; omega) | (dsimp only at hq; done))); exact q) | (have q := PR.keep rcK_K (by decide) (WInv.a1 hW) hk12 (by (intro hq; first | omega | (dsimp only at hq; omega) | (dsimp only at hq; done))) (by (intro hq; first | omega | (dsimp only at hq; omega) | (dsimp only at hq; done))); exact q) | (have q := PR.keep u8K_K (by decide) (WInv.b hW) hk12 (by (intro hq; first | omega | (dsimp only at hq; omega) | (dsimp only at hq; done))) (by (intro hq; first | omega | (dsimp only at hq; omega) | (dsimp only at hq; done))); exact q) | (have q := PR.keep mcK_K (by decide) (WInv.m hW) hk12 (by (intro hq; first | omega | (dsimp only at hq; omega) | (dsimp only at hq; done))) (by (intro hq; first | omega | (dsimp only at hq; omega) | (dsimp only at hq; done))); exact q) | (have q := PR.keep rcK_K (by decide) (WInv.r hW) hk12 (by (intro hq; first | omega | (dsimp only at hq; omega) | (dsimp only at hq; done))) (by (intro hq; first | omega | (dsimp only at hq; omega) | (dsimp only at hq; done))); exact q) | (have q := Ow.keep (WInv.k0 hW) hk12 (by (intro hq; first | omega | (dsimp only at hq; omega) | (dsimp only at hq; done))); exact q) | (have q := Ow.keep (WInv.k1 hW) hk12 (by (intro hq; first | omega | (dsimp only at hq; omega) | (dsimp only at hq; done))); exact q) | (have q := Ow.keep (WInv.k2 hW) hk12 (by (intro hq; first | omega | (dsimp only at hq; omega) | (dsimp only at hq; done))); exact q) | (have q := PO.keep (WInv.e hW) hk12 (by (intro hq; first | omega | (dsimp only at hq; omega) | (dsimp only at hq; done))) (fun i => by (intro hq; first | omega | (dsimp only at hq; omega) | (dsimp only at hq; done))); exact q))
set_option maxHeartbeats 2000000 in
set_option maxRecDepth 100000 in
theorem takeReplies_ok (w : World) (g : Nat) (own : Nat → Nat) (s : St) (h : Gh) (l : Sl) (ms : List RC) (D : List (Sl × List Int)) (H : WInv w g own s h) (hl : Ow rcK 44 w own 25 l ms) (hd : ∀ i p, D[i]? = some p → Ow u8K 5 w own (32 * i + 1) p.1 p.2) (hm : ms.map (·.d) = D.map (·.1)) (hx : ∀ p ∈ D, p.2.length ≤ 5000000000000) (hn : h.F.length + D.length ≤ 5000000000000) (hc : h.C.length = h.F.length) (hT : h.A.length ≤ 5000000000000) (hU : h.V.length ≤ 5000000000000) (hms : ms.length ≤ 2000000000000) :
  Calls Try.prog 58 #[pt g, l.enc] w fun e w' => e = .returned (.tuple #[]) ∧ ∃ own' v0 v1 v2 v3 cs c, cs.map (·.2) = D.map (·.2) ∧ WInv w' g own' { s with f0 := v0, f1 := v1, a0 := v2, a1 := v3 } { h with F := h.F ++ D, C := h.C ++ cs, A := h.A ++ [(l, ms)], V := h.V ++ [(c, ms)] } ∧ Kp (fun q => q % 32 = 1 ∨ q = 25 ∨ q = 2 ∨ q = 3 ∨ q = 5 ∨ q = 9 ∨ q = 11) w own w' own' := by
 have hnl : l.n = ms.length := (ow_len hl).1.symm
 have hdl : D.length = ms.length := by have := congrArg List.length hm; simpa using this.symm
 obtain ⟨A, N, cc⟩ := l
 obtain rfl : N = ms.length := hnl
 have HW := Lib.hid H
 have HL := Lib.hid hl
 have HD := Lib.hid hd
 have HM := Lib.hid hm
 have HX := Lib.hid hx
 have HN := Lib.hid hn
 clear H hl hd hm hx hn
 go_enter Try.func58, Try.ntmps58
 go_wp2_with fail
 simp only [Sl.enc]
 go_loopw [4] (fun i wr => ∃ (j : Nat) (o : Nat → Nat) (v0 v1 : Sl) (cs : List (Sl × List Int)), j ≤ ms.length ∧ i = .int .i64 (j : Int) ∧ Hid (TkSt w own g s h D wr j o v0 v1 cs)) (fun i _ => ms.length - (intOf i).toNat)
 case atStart => exact ⟨0, own, s.f0, s.f1, [], by omega, rfl, Lib.hid ⟨by simpa using HW.out, Kp.refl _ _ _, by simp, fun i p _ hp => HD.out i p hp⟩⟩
 case round =>
  obtain ⟨j, o, v0, v1, cs, hj, rfl, HS⟩ := hrel
  by_cases hlt : j < ms.length
  ·
   have dl : decide ((j : Int) < (ms.length : Int)) = true := by simp; omega
   have hl' := Ow.keep HL.out HS.out.kp (by (intro hq; first | omega | (dsimp only at hq; omega) | (dsimp only at hq; done)))
   obtain ⟨p, hp⟩ : ∃ p, D[j]? = some p := ⟨D[j], List.getElem?_eq_getElem (by omega)⟩
   have hmd : ms[j].d = p.1 := by
    have h1 := congrArg (fun z => z[j]?) HM.out
    simp only [List.getElem?_map, hp, List.getElem?_eq_getElem hlt, Option.map_some] at h1
    exact Option.some.inj h1
   obtain ⟨ad, hA, kk⟩ := rc_at (ow_len hl').2.2 j hlt ms[j] (List.getElem?_eq_getElem hlt)
   have hA' : A = some ad := hA
   subst hA'
   have kd := kk.2.2.2
   rw [hmd] at kd
   have HP := Lib.hid hp
   clear kk hA hl' hmd hp
   have hxp : p.2.length ≤ 5000000000000 := HX.out p (List.mem_of_getElem? HP.out)
   have hcl : cs.length = j := tk_len HS.out (by omega)
   have htk : (D.take j).length = j := by rw [List.length_take]; omega
   have HCL := Lib.hid hcl
   have HTK := Lib.hid htk
   clear hcl htk
   have hok := take_ok wr g (32 * j + 1) o _ _ p.1 p.2 HS.out.inv (HS.out.rest j p (Nat.le_refl _) HP.out) (.inl (by omega)) (by have := HN.out; have := HTK.out; simp; omega) (by have := HCL.out; have := HTK.out; simp; omega) hxp
   have HOK := Lib.hid hok
   clear hok
   simp only [Sl.enc] at kd
   go_wp2_with (refine HOK.out.mono ?_; rintro e w2 ⟨rfl, o2, v2, v3, c, hi2, hk2⟩)
   have HS2 := Lib.hid (tk_step HS.out HP.out hi2 hk2)
   clear hi2 hk2 HOK
   go_wp2_with fail
   refine ⟨⟨j + 1, o2, v2, v3, _, by omega, by go_num, HS2⟩, by simp [intOf]; omega⟩
  ·
   obtain rfl : j = ms.length := by omega
   have dl : decide (((ms.length : Nat) : Int) < (ms.length : Int)) = false := by simp
   have hfull : D.take ms.length = D := List.take_of_length_le (by omega)
   have hin := HS.out.inv
   have hcsm := HS.out.same
   rw [hfull] at hin hcsm
   have hkr := Kp.ret wr o 25 (32 * h.A.length + 10)
   have hl' := Ow.ret (Ow.keep HL.out HS.out.kp (by (intro hq; first | omega | (dsimp only at hq; omega) | (dsimp only at hq; done)))) (32 * h.A.length + 10)
   have HI := Lib.hid (hin.keep (hkr.mono (fun q hq => by subst hq; exact .inr (by decide))))
   have HKR := Lib.hid hkr
   have HLL := Lib.hid hl'
   have HCS := Lib.hid hcsm
   generalize ret o 25 (32 * h.A.length + 10) = o0 at HI HLL HKR
   clear hkr hl' hin hcsm hfull
   have k0 : wr.cell? ⟨g, 5, none⟩ = some s.a0.enc := Blk.cell (i := 5) HI.out.blk rfl
   go_wp2_with fail
   simp only [show Value.slice A ms.length cc = (Sl.mk A ms.length cc).enc from rfl]
   have HB1 := Lib.hid HI.out.blk
   have HG01 := Lib.hid HI.out.og
   refine start_ (n := 13) (S := fun w' => w'.cell? ⟨g, 5, none⟩ = some s.a0.enc) (ds := [8, 12]) #[false, false, false, false, false, false, false, false, false, false, false, false, false] (by kernel_rfl) rfl rfl k0 (fun hHeld => ?_)
   refine pu_ (i := 0) (N := some 18) (v := ?_) (a' := ?_) rfl rfl (by kernel_rfl) (fun _ _ _ h => h) (by rfl) ?_ ?_ ?_
   rotate_left
   · (intro w'; go_simp; with_reducible rfl)
   rotate_left
   · (simp only [put_s, List.set, i64_w, i32_w]; rfl)
   refine pu_ (i := 1) (N := some 19) (v := ?_) (a' := ?_) rfl rfl (by kernel_rfl) (fun _ _ _ h => h) (by rfl) ?_ ?_ ?_
   rotate_left
   · (intro w'; go_simp; with_reducible rfl)
   rotate_left
   · (simp only [put_s, List.set, i64_w, i32_w]; rfl)
   refine pu_ (i := 2) (N := some 20) (v := ?_) (a' := ?_) rfl rfl (by kernel_rfl) (fun _ _ _ h => h) (by rfl) ?_ ?_ ?_
   rotate_left
   · (intro w'; go_simp; with_reducible rfl)
   rotate_left
   · (simp only [put_s, List.set, i64_w, i32_w]; rfl)
   refine pu_ (i := 3) (N := some 21) (v := ?_) (a' := ?_) rfl rfl (by kernel_rfl) (fun _ _ _ h => h) (by rfl) ?_ ?_ ?_
   rotate_left
   · (intro w'; go_simp; with_reducible rfl)
   rotate_left
   · (simp only [put_s, List.set, i64_w, i32_w]; rfl)
   refine pu_ (i := 4) (N := some 22) (v := ?_) (a' := ?_) rfl rfl (by kernel_rfl) (fun _ _ _ h => h) (by rfl) ?_ ?_ ?_
   rotate_left
   · (intro w'; go_simp; with_reducible rfl)
   rotate_left
   · (simp only [put_s, List.set, i64_w, i32_w]; rfl)
   refine tk_ (i := 5) (N := some 23) (v := ?_) (a' := ?_) rfl rfl (by kernel_rfl) (fun _ _ _ h => h) (by rfl) ?_ hHeld ?_ ?_
   rotate_left
   · (intro w' s0; go_simp; with_reducible rfl)
   rotate_left
   · (simp only [put_s, List.set, i64_w, i32_w]; rfl)
   refine pu_ (i := 6) (N := some 24) (v := ?_) (a' := ?_) rfl rfl (by kernel_rfl) (fun _ _ _ h => h) (by rfl) ?_ ?_ ?_
   rotate_left
   · (intro w'; go_simp; with_reducible rfl)
   rotate_left
   · (simp only [put_s, List.set, i64_w, i32_w]; rfl)
   refine pu_ (i := 9) (N := some 27) (v := ?_) (a' := ?_) rfl rfl (by kernel_rfl) (fun _ _ _ h => h) (by rfl) ?_ ?_ ?_
   rotate_left
   · (intro w'; go_simp; with_reducible rfl)
   rotate_left
   · (simp only [put_s, List.set, i64_w, i32_w]; rfl)
   refine pu_ (i := 10) (N := some 28) (v := ?_) (a' := ?_) rfl rfl (by kernel_rfl) (fun _ _ _ h => h) (by rfl) ?_ ?_ ?_
   rotate_left
   · (intro w'; go_simp; with_reducible rfl)
   rotate_left
   · (simp only [put_s, List.set, i64_w, i32_w]; rfl)
   refine on_ (i := 7) (N := some 25) rfl rfl (by kernel_rfl) (by decide) (fun K hK => ?_)
   refine value_ (v := .slice (some ⟨(wr.drew).heap.size, 0, none⟩) 1 1) (w1 := (wr.drew).alloc (.cells #[(Sl.mk A ms.length cc).enc] 41)) (by rfl) rfl (by simp only [Sl.enc]; go_simp) ?_
   refine hK.out _ _ ((World.cell?_alloc_lt _ _ _ (World.block_lt_of_cell? _ _ hHeld)).trans hHeld) (fun hHeld => ?_)
   clear hK K
   refine norm_ (a' := ?_) ?_ ?_
   rotate_left
   ·
    show Act.put _ (some 25) _ = _
    simp only [put_s, List.set, i64_w, i32_w]
    rfl
   refine la_ (i := 8) (N := some 26) rfl rfl (by kernel_rfl) (by decide) (fun K hK => ?_)
   refine Kd.R_append_step slK (w0 := wr) 0 (by rfl) (.tmp 23) (.tmp 25) 57 41 (.slice none 0 0) 24 rfl Try.underlying57 info41 rfl (by decide) (by decide) s.a0.enc (h.A.map (·.1)) (Sl.mk A ms.length cc) [(Sl.mk A ms.length cc).enc] (fun k => tagged wr o0 9 k = 9) (fun _ => False) rfl rfl rfl (fun _ hk => hk.elim) (fun q hq => tagged_new (by have hz : (wr).heap.size ≤ q := hq; exact hz)) (Ow.alloc HI.out.a0.1 (Below.drew (Below.refl _ _))) (Below.drew (Below.refl 0 _)) (Nat.zero_le _) (by simp; omega) ?_
   intro v1 w1 ho hb hg hat
   obtain ⟨s1, rfl, ho', hk'⟩ := Ow.pushed HI.out.a0.1 (Below.drew (Below.refl _ _)) ho hg
   clear ho hb hg hat
   have hbb := Blk.keep (HB1.out) hk' (by rw [HI.out.og]; decide)
   have HBK1 := Lib.hid hbb.1
   have HG1 := Lib.hid (hbb.2.trans HI.out.og)
   have HO1 := Lib.hid ho'
   have HK1 := Lib.hid hk'
   have c1 := Blk.cell (i := 5) hbb.1 rfl
   have z1 := Blk.frozen (i := 5) hbb.1
   clear ho' hk' hbb HB1
   refine hK.out _ _ ?_
   clear hK K
   refine norm_ (a' := ?_) ?_ ?_
   rotate_left
   ·
    show Act.put _ (some 26) _ = _
    simp only [put_s, List.set, i64_w, i32_w]
    rfl
   refine pu_ (i := 11) (N := some 29) (v := ?_) (a' := ?_) rfl rfl (by kernel_rfl) (fun _ _ _ h => h) (by rfl) ?_ ?_ ?_
   rotate_left
   · (intro w'; go_simp; with_reducible rfl)
   rotate_left
   · (simp only [put_s, List.set, i64_w, i32_w]; rfl)
   refine la_ (i := 12) (N := none) rfl rfl (by kernel_rfl) (by decide) (fun K hK => ?_)
   refine skip_ (w1 := w1.setCell ⟨g, 5, none⟩ s1.enc) (by rfl) rfl (by simp only [Sl.enc]; go_simp) ?_
   refine hK.out _ _ ?_
   clear hK K
   refine done_ (by kernel_rfl) ?_
   clear c1 z1
   obtain ⟨hb', hk', ho'⟩ := push_end 5 HBK1.out HK1.out HO1.out HG01.out (by decide)
   have HBS1 := Lib.hid hb'
   have HKS1 := Lib.hid hk'
   have HOS1 := Lib.hid ho'
   have HGS1 := Lib.hid HG1.out
   clear hb' hk' ho' HBK1 HK1 HO1 HG1 HG01
   generalize w1.setCell ⟨g, 5, none⟩ s1.enc = W1 at *
   have HF1 := Lib.hid (Ow.keep HI.out.a1.1 HKS1.out (by (intro hq; first | omega | (dsimp only at hq; omega) | (dsimp only at hq; done))))
   have HX1 := Lib.hid ((Rd.keep rcK_K (by decide) (ow_rd HLL.out) HKS1.out (by (intro hq; first | omega | (dsimp only at hq; omega) | (dsimp only at hq; done)))).1)
   have k1 : W1.cell? ⟨g, 6, none⟩ = some s.a1.enc := Blk.cell (i := 6) HBS1.out rfl
   go_wp2_with fail
   have HB02 := Lib.hid HBS1.out
   have HG02 := Lib.hid HGS1.out
   have HX2 := Lib.hid HX1.out
   refine start_ (n := 15) (S := fun w' => w'.cell? ⟨g, 6, none⟩ = some s.a1.enc) (ds := [10, 14]) #[false, false, false, false, false, false, false, false, false, false, false, false, false, false, false] (by kernel_rfl) rfl rfl k1 (fun hHeld => ?_)
   refine pu_ (i := 0) (N := some 30) (v := ?_) (a' := ?_) rfl rfl (by kernel_rfl) (fun _ _ _ h => h) (by rfl) ?_ ?_ ?_
   rotate_left
   · (intro w'; go_simp; with_reducible rfl)
   rotate_left
   · (simp only [put_s, List.set, i64_w, i32_w]; rfl)
   refine pu_ (i := 1) (N := some 31) (v := ?_) (a' := ?_) rfl rfl (by kernel_rfl) (fun _ _ _ h => h) (by rfl) ?_ ?_ ?_
   rotate_left
   · (intro w'; go_simp; with_reducible rfl)
   rotate_left
   · (simp only [put_s, List.set, i64_w, i32_w]; rfl)
   refine pu_ (i := 2) (N := some 32) (v := ?_) (a' := ?_) rfl rfl (by kernel_rfl) (fun _ _ _ h => h) (by rfl) ?_ ?_ ?_
   rotate_left
   · (intro w'; go_simp; with_reducible rfl)
   rotate_left
   · (simp only [put_s, List.set, i64_w, i32_w]; rfl)
   refine pu_ (i := 3) (N := some 33) (v := ?_) (a' := ?_) rfl rfl (by kernel_rfl) (fun _ _ _ h => h) (by rfl) ?_ ?_ ?_
   rotate_left
   · (intro w'; go_simp; with_reducible rfl)
   rotate_left
   · (simp only [put_s, List.set, i64_w, i32_w]; rfl)
   refine pu_ (i := 4) (N := some 34) (v := ?_) (a' := ?_) rfl rfl (by kernel_rfl) (fun _ _ _ h => h) (by rfl) ?_ ?_ ?_
   rotate_left
   · (intro w'; go_simp; with_reducible rfl)
   rotate_left
   · (simp only [put_s, List.set, i64_w, i32_w]; rfl)
   refine tk_ (i := 5) (N := some 35) (v := ?_) (a' := ?_) rfl rfl (by kernel_rfl) (fun _ _ _ h => h) (by rfl) ?_ hHeld ?_ ?_
   rotate_left
   · (intro w' s0; go_simp; with_reducible rfl)
   rotate_left
   · (simp only [put_s, List.set, i64_w, i32_w]; rfl)
   refine pu_ (i := 7) (N := some 37) (v := ?_) (a' := ?_) rfl rfl (by kernel_rfl) (fun _ _ _ h => h) (by rfl) ?_ ?_ ?_
   rotate_left
   · (intro w'; go_simp; with_reducible rfl)
   rotate_left
   · (simp only [put_s, List.set, i64_w, i32_w]; rfl)
   refine pu_ (i := 11) (N := some 41) (v := ?_) (a' := ?_) rfl rfl (by kernel_rfl) (fun _ _ _ h => h) (by rfl) ?_ ?_ ?_
   rotate_left
   · (intro w'; go_simp; with_reducible rfl)
   rotate_left
   · (simp only [put_s, List.set, i64_w, i32_w]; rfl)
   refine pu_ (i := 12) (N := some 42) (v := ?_) (a' := ?_) rfl rfl (by kernel_rfl) (fun _ _ _ h => h) (by rfl) ?_ ?_ ?_
   rotate_left
   · (intro w'; go_simp; with_reducible rfl)
   rotate_left
   · (simp only [put_s, List.set, i64_w, i32_w]; rfl)
   refine on_ (i := 6) (N := some 36) rfl rfl (by kernel_rfl) (by decide) (fun K hK => ?_)
   refine Kd.R_lit_step rcK (w0 := W1) (W1).heap.size 44 (by rfl) rfl (xs := []) (inner := []) (ok := fun _ => True) (okp := fun _ => True) (by go_simp) ⟨rfl, fun j p hj => by simp at hj⟩ (fun _ _ => trivial) trivial (Below.drew (Below.refl _ _)) (Nat.le_refl _) (by decide) ?_
   intro v2a w2a hra hba hga hata
   have hHeld := (Kp.cellOf (own := (tagged wr o0 9)) hba hHeld)
   refine hK.out _ _ hHeld (fun hHeld => ?_)
   clear hK K
   refine norm_ (a' := ?_) ?_ ?_
   rotate_left
   ·
    show Act.put _ (some 36) _ = _
    simp only [put_s, List.set, i64_w, i32_w]
    rfl
   refine on_ (i := 8) (N := some 38) rfl rfl (by kernel_rfl) (by decide) (fun K hK => ?_)
   refine Kd.R_append_rows_step rcK (Rr := rcK.K _) (w0 := W1) (W1).heap.size (by rfl) (.tmp 36) (.tmp 37) 41 44 (.agg #[.int .i64 0, .int .i64 0, .int .i64 0, .slice none 0 0]) 48 rfl Try.underlying41 info44 rfl (by decide) (by decide) v2a [] ms (Sl.mk A ms.length cc).A (Sl.mk A ms.length cc).n (Sl.mk A ms.length cc).c (fun _ => True) (fun _ => False) rfl rfl hra (Kd.C_below HX2.out hba) (fun _ _ hh => hh) (fun _ hk => hk.elim) (fun _ _ => trivial) hba hba.size (by simp; omega) ?_
   intro v2b w2b hrb hbb hgb hatb
   obtain ⟨A2b, c2b, hv2b, _, _⟩ := Kd.R_reads hrb
   rw [List.nil_append] at hrb hv2b
   clear hra hba hga hata hgb hatb
   obtain ⟨y2, rfl⟩ : ∃ y : Sl, v2b = y.enc := ⟨⟨A2b, _, c2b⟩, hv2b⟩
   clear hv2b
   have HY2 := Lib.hid (ow_new (own := (tagged wr o0 9)) 0 hrb)
   have HKB2 := Lib.hid (Kp.below (ts := fun _ => False) (own := (tagged wr o0 9)) hbb 0)
   clear hrb
   have hHeld := (Kp.cellOf (own := (tagged wr o0 9)) hbb (show (W1).cell? _ = _ from k1))
   clear hbb
   refine hK.out _ _ hHeld (fun hHeld => ?_)
   clear hK K
   refine norm_ (a' := ?_) ?_ ?_
   rotate_left
   ·
    show Act.put _ (some 38) _ = _
    simp only [put_s, List.set, i64_w, i32_w]
    rfl
   refine on_ (i := 9) (N := some 39) rfl rfl (by kernel_rfl) (by decide) (fun K hK => ?_)
   refine value_ (v := .slice (some ⟨(w2b).heap.size, 0, none⟩) 1 1) (w1 := (w2b).alloc (.cells #[y2.enc] 41)) (by rfl) rfl (by simp only [Sl.enc]; go_simp) ?_
   refine hK.out _ _ ((World.cell?_alloc_lt _ _ _ (World.block_lt_of_cell? _ _ hHeld)).trans hHeld) (fun hHeld => ?_)
   clear hK K
   refine norm_ (a' := ?_) ?_ ?_
   rotate_left
   ·
    show Act.put _ (some 39) _ = _
    simp only [put_s, List.set, i64_w, i32_w]
    rfl
   refine la_ (i := 10) (N := some 40) rfl rfl (by kernel_rfl) (by decide) (fun K hK => ?_)
   have hbx := Blk.keep HB02.out HKB2.out (by intro hq; exact hq)
   have HB2 := Lib.hid hbx.1
   have HGB2 := Lib.hid (hbx.2.trans HG02.out)
   have HRB2 := Lib.hid (Ow.keep HF1.out HKB2.out (by intro hq; exact hq))
   clear hbx
   refine Kd.R_append_step slK (w0 := w2b) 0 (by rfl) (.tmp 35) (.tmp 39) 57 41 (.slice none 0 0) 24 rfl Try.underlying57 info41 rfl (by decide) (by decide) s.a1.enc (h.V.map (·.1)) y2 [y2.enc] (fun k => tagged w2b (tagged W1 (tagged wr o0 9) 0) 11 k = 11) (fun _ => False) rfl rfl rfl (fun _ hk => hk.elim) (fun q hq => tagged_new (by have hz : (w2b).heap.size ≤ q := hq; exact hz)) (Ow.alloc HRB2.out (Below.refl _ _)) (Below.refl 0 _) (Nat.zero_le _) (by simp; omega) ?_
   intro v2 w2 ho hb hg hat
   obtain ⟨s2, rfl, ho', hk'⟩ := Ow.pushed HRB2.out (Below.refl _ _) ho hg
   clear ho hb hg hat
   have hbb := Blk.keep (HB2.out) hk' (by rw [HGB2.out]; decide)
   have HBK2 := Lib.hid hbb.1
   have HG2 := Lib.hid (hbb.2.trans HGB2.out)
   have HO2 := Lib.hid ho'
   have HK2 := Lib.hid hk'
   have c2 := Blk.cell (i := 6) hbb.1 rfl
   have z2 := Blk.frozen (i := 6) hbb.1
   clear ho' hk' hbb HB2
   refine hK.out _ _ ?_
   clear hK K
   refine norm_ (a' := ?_) ?_ ?_
   rotate_left
   ·
    show Act.put _ (some 40) _ = _
    simp only [put_s, List.set, i64_w, i32_w]
    rfl
   refine pu_ (i := 13) (N := some 43) (v := ?_) (a' := ?_) rfl rfl (by kernel_rfl) (fun _ _ _ h => h) (by rfl) ?_ ?_ ?_
   rotate_left
   · (intro w'; go_simp; with_reducible rfl)
   rotate_left
   · (simp only [put_s, List.set, i64_w, i32_w]; rfl)
   refine la_ (i := 14) (N := none) rfl rfl (by kernel_rfl) (by decide) (fun K hK => ?_)
   refine skip_ (w1 := w2.setCell ⟨g, 6, none⟩ s2.enc) (by rfl) rfl (by simp only [Sl.enc]; go_simp) ?_
   refine hK.out _ _ ?_
   clear hK K
   refine done_ (by kernel_rfl) ?_
   clear c2 z2
   obtain ⟨hb', hk', ho'⟩ := push_end 6 HBK2.out HK2.out HO2.out HGB2.out (by decide)
   have HBS2 := Lib.hid hb'
   have HKS2 := Lib.hid hk'
   have HOS2 := Lib.hid ho'
   have HGS2 := Lib.hid HG2.out
   clear hb' hk' ho' HBK2 HK2 HO2 HG2 HGB2 HRB2 HX2 HB02 HG02
   generalize w2.setCell ⟨g, 6, none⟩ s2.enc = W2 at *
   go_wp2_with fail
   try go_end0
   have hk12 : Kp (fun q => q = 2 ∨ q = 9 ∨ q = 11) wr o0 W2 (tagged w2b (tagged W1 (tagged wr o0 9) 0) 11) := ((HKS1.out.mono (fun q hq => by omega)).trans (HKB2.out.mono (fun q hq => hq.elim))).trans (HKS2.out.mono (fun q hq => by omega))
   have hW := HI.out
   have hl2 := Ow.keep HLL.out hk12 (by (intro hq; first | omega | (dsimp only at hq; omega) | (dsimp only at hq; done)))
   have hb : Blk W2 g ({ s with f0 := v0, f1 := v1, a0 := s1, a1 := s2 } : St).cells 61 := HBS2.out
   have hf : PO rcK 44 41 9 10 W2 (tagged w2b (tagged W1 (tagged wr o0 9) 0) 11) s1 (h.A ++ [(⟨A, ms.length, cc⟩, ms)]) := PO.snoc (Ow.keep (Ow.keep HOS1.out HKB2.out (by (intro hq; first | omega | (dsimp only at hq; omega) | (dsimp only at hq; done)))) HKS2.out (by (intro hq; first | omega | (dsimp only at hq; omega) | (dsimp only at hq; done)))) (fun i p hp => Ow.keep (hW.a0.2 i p hp) hk12 (by (intro hq; first | omega | (dsimp only at hq; omega) | (dsimp only at hq; done)))) hl2
   have hcc : PR rcK 41 11 W2 (tagged w2b (tagged W1 (tagged wr o0 9) 0) 11) s2 (h.V ++ [(y2, ms)]) := PR.snoc HOS2.out (fun p hp => Rd.keep rcK_K (by decide) (hW.a1.2 p hp) hk12 (by (intro hq; first | omega | (dsimp only at hq; omega) | (dsimp only at hq; done)))) (Rd.keep rcK_K (by decide) (ow_rd HY2.out) HKS2.out (by (intro hq; first | omega | (dsimp only at hq; omega) | (dsimp only at hq; done))))
   refine ⟨rfl, _, v0, v1, s1, s2, cs, y2, HCS.out, ?_, ((HS.out.kp.mono (fun q hq => by omega)).trans (HKR.out.mono (fun q hq => by omega))).trans (hk12.mono (fun q hq => by omega))⟩
   constructor <;> (first | assumption | (have q := (Blk.keep (WInv.blk hW) hk12 (by rw [WInv.og hW]; (intro hq; first | omega | (dsimp only at hq; omega) | (dsimp only at hq; done)))).1; exact q) | (have q := (Blk.keep (WInv.blk hW) hk12 (by rw [WInv.og hW]; (intro hq; first | omega | (dsimp only at hq; omega) | (dsimp only at hq; done)))).2.trans (WInv.og hW); exact q) | (have q := PL.keep (WInv.l hW) hk12 (by (intro hq; first | omega | (dsimp only at hq; omega) | (dsimp only at hq; done))) (fun i => by (intro hq; first | omega | (dsimp only at hq; omega) | (dsimp only at hq; done))) (fun i => by (intro hq; first | omega | (dsimp only at hq; omega) | (dsimp only at hq; done))); exact q) | (have q := PO.keep (WInv.f0 hW) hk12 (by (intro hq; first | omega | (dsimp only at hq; omega) | (dsimp only at hq; done))) (fun i => by (intro hq; first | omega | (dsimp only at hq; omega) | (dsimp only at hq; done))); exact q) | (have q := PR.keep u8K_K (by decide) (WInv.f1 hW) hk12 (by (intro hq; first | omega | (dsimp only at hq; omega) | (dsimp only at hq; done))) (by (intro hq; first | omega | (dsimp only at hq; omega) | (dsimp only at hq; done))); exact q) | (have q := PO.keep (WInv.t0 hW) hk12 (by (intro hq; first | omega | (dsimp only at hq; omega) | (dsimp only at hq; done))) (fun i => by (intro hq; first | omega | (dsimp only at hq; omega) | (dsimp only at hq; done))); exact q) | (have q := PR.keep mcK_K (by decide) (WInv.t1 hW) hk12 (by (intro hq; first | omega | (dsimp only at hq; omega) | (dsimp only at hq; done))) (by (intro hq; first | omega | (dsimp only at hq; omega) | (dsimp only at hq; done))); exact q) | (have q := PO.keep (WInv.a0 hW) hk12 (by (intro hq; first | omega | (dsimp only at hq; omega) | (dsimp only at hq; done))) (fun i => by (intro hq; first | omega | (dsimp only at hq; omega) | (dsimp only at hq; done))); exact q) | (have q := PR.keep rcK_K (by decide) (WInv.a1 hW) hk12 (by (intro hq; first | omega | (dsimp only at hq; omega) | (dsimp only at hq; done))) (by (intro hq; first | omega | (dsimp only at hq; omega) | (dsimp only at hq; done))); exact q) | (have q := PR.keep u8K_K (by decide) (WInv.b hW) hk12 (by (intro hq; first | omega | (dsimp only at hq; omega) | (dsimp only at hq; done))) (by (intro hq; first | omega | (dsimp only at hq; omega) | (dsimp only at hq; done))); exact q) | (have q := PR.keep mcK_K (by decide) (WInv.m hW) hk12 (by (intro hq; first | omega | (dsimp only at hq; omega) | (dsimp only at hq; done))) (by (intro hq; first | omega | (dsimp only at hq; omega) | (dsimp only at hq; done))); exact q) | (have q := PR.keep rcK_K (by decide) (WInv.r hW) hk12 (by (intro hq; first | omega | (dsimp only at hq; omega) | (dsimp only at hq; done))) (by (intro hq; first | omega | (dsimp only at hq; omega) | (dsimp only at hq; done))); exact q) | (have q := Ow.keep (WInv.k0 hW) hk12 (by (intro hq; first | omega | (dsimp only at hq; omega) | (dsimp only at hq; done))); exact q) | (have q := Ow.keep (WInv.k1 hW) hk12 (by (intro hq; first | omega | (dsimp only at hq; omega) | (dsimp only at hq; done))); exact q) | (have q := Ow.keep (WInv.k2 hW) hk12 (by (intro hq; first | omega | (dsimp only at hq; omega) | (dsimp only at hq; done))); exact q) | (have q := PO.keep (WInv.e hW) hk12 (by (intro hq; first | omega | (dsimp only at hq; omega) | (dsimp only at hq; done))) (fun i => by (intro hq; first | omega | (dsimp only at hq; omega) | (dsimp only at hq; done))); exact q))
end Go.Proofs.Ytpflenaoplblkaa.PaO
end
section
namespace Go.Proofs.Ytpflenaoplblkaa.PaP
open Go.RowKit YtpflenaoplblkaaW.PrintWords YtpflenaoplblkaaW.PrintLast ProA ProB ProC ProI ProD ProG ProJ ProK ProL ProM ProN ProO ProP ProQ ProR ProU ProZ ProBb PaA
open ProH (msgTab repTab ba)
open ProS PaI PaJ PaK PaL
open PaM PaN PaO
set_option linter.unusedVariables false
set_option linter.unusedSimpArgs false
theorem sl_at {w : World} {A : Option Addr} {n : Nat} {xs : List Sl} (h : slK.C w A n xs) (j : Nat) (hj : j < n) (x : Sl) (hx : xs[j]? = some x) : ∃ ad, A = some ad ∧ w.cell? (ad.add j) = some x.enc := by
 obtain ⟨ad, c, e, _, hK, hc0⟩ := Kd.C_get h x (j : Int) (by omega) (by omega)
 rw [Int.toNat_natCast, List.getD_eq_getElem?_getD, hx] at hK
 have hK' : c = [x.enc] := hK
 subst hK'
 exact ⟨ad, e, by have := hc0 0 _ rfl; rw [Int.toNat_natCast, Nat.add_zero] at this; simpa [slK, Kd.scalar] using this⟩
structure Same (w : World) (h : Gh) : Prop where
 f : h.C.map (·.2) = h.F.map (·.2)
 t : h.U.map (·.2) = h.T.map (·.2)
 a : h.V.map (·.2) = h.A.map (·.2)
 dt : ∀ p ∈ h.T, ∀ x ∈ p.2, ∃ bs, BytesAt w x.d.A x.d.n bs ∧ x.d.n ≤ x.d.c
 da : ∀ p ∈ h.A, ∀ x ∈ p.2, ∃ bs, BytesAt w x.d.A x.d.n bs ∧ x.d.n ≤ x.d.c
structure Sm (h : Gh) : Prop where
 F : h.F.length ≤ 1000000000000
 T : h.T.length ≤ 1000000000000
 A : h.A.length ≤ 1000000000000
 B : h.B.length ≤ 5000000000000
 M : h.M.length ≤ 5000000000000
 R : h.R.length ≤ 5000000000000
 E : h.E.length ≤ 5000000000000
 L : h.L.length ≤ 5000000000000
 fx : ∀ p ∈ h.F, p.2.length ≤ 1000000000000
 tx : ∀ p ∈ h.T, p.2.length ≤ 1000000000000
 ax : ∀ p ∈ h.A, p.2.length ≤ 1000000000000
 bx : ∀ p ∈ h.B, p.2.length ≤ 2000000000000
 mx : ∀ p ∈ h.M, p.2.length ≤ 2000000000000
 rx : ∀ p ∈ h.R, p.2.length ≤ 2000000000000
 ex : ∀ p ∈ h.E, p.2.length ≤ 1000000000000
theorem same_len {α : Type} {C F : List (Sl × List α)} (h : C.map (·.2) = F.map (·.2)) : C.length = F.length := by have := congrArg List.length h; simpa using this
theorem same_at {α : Type} {C F : List (Sl × List α)} (h : C.map (·.2) = F.map (·.2)) {j : Nat} {p : Sl × List α} (hp : F[j]? = some p) : ∃ q, C[j]? = some q ∧ q.2 = p.2 := by
 have h1 := congrArg (fun z => z[j]?) h
 simp only [List.getElem?_map, hp, Option.map_some] at h1
 cases hq : C[j]? with
 | none => rw [hq] at h1; simp at h1
 | some q => rw [hq] at h1; simp at h1; exact ⟨q, rfl, h1⟩
theorem conv_str {w : World} {A : Option Addr} {n c : Nat} {xs : List Int} (h : BytesAt w A n xs) : (convert 22 9 (.slice A n c)).run Try.prog w = .ok (.string (strOfNums xs)) w := Kd.C_string Try.underlying22 Try.underlying5 Try.underlying9 h
theorem Kd_C_len {α : Type} {d : Kd α} {w : World} {A : Option Addr} {n : Nat} {xs : List α} (h : d.C w A n xs) : xs.length = n := h.1
theorem row_at {w : World} {own : Nat → Nat} {g i t e : Nat} {cs : Array Value} {f : Sl} {xs : List Sl} (hb : Blk w g cs 61) (hi : cs[i]? = some f.enc) (ho : Ow slK e w own t f xs) : ∃ A c, xs.length ≤ c ∧ w.cell? ⟨g, i, none⟩ = some (.slice A xs.length c) ∧ slK.C w A xs.length xs := by
 obtain ⟨h1, h2, h3⟩ := ow_len ho
 have := Blk.cell (i := i) hb hi
 exact ⟨f.A, f.c, by omega, by rw [h1]; exact this, by rw [h1]; exact h3⟩
set_option maxHeartbeats 4000000 in
set_option maxRecDepth 100000 in
theorem stays_ok (w : World) (g : Nat) (own : Nat → Nat) (s : St) (h : Gh) (H : WInv w g own s h) (hs : Same w h) (hm : Sm h) :
  Calls Try.prog 37 #[pt g] w fun e w' => e = .returned (.bool true) ∧ Below w.heap.size w w' := by
 have hF := hm.F
 have hT := hm.T
 have hA := hm.A
 have HM := Lib.hid hm
 have HS := Lib.hid hs
 have HW := Lib.hid H
 clear hm hs H
 go_enter Try.func37, Try.ntmps37
 go_wp2_with fail
 obtain ⟨A1, c1, hc1, k1, hl1⟩ := row_at (i := 1) HW.out.blk rfl HW.out.f0.1
 obtain ⟨A2, c2, hc2, k2, hl2⟩ := row_at (i := 2) HW.out.blk rfl HW.out.f1.1
 rw [List.length_map] at hc1 k1 hl1 hc2 k2 hl2
 rw [same_len HS.out.f] at hc2 k2 hl2
 have HC1 := Lib.hid hl1
 have HC2 := Lib.hid hl2
 have HK1 := Lib.hid k1
 have HK2 := Lib.hid k2
 clear hl1 hl2 k1 k2
 go_loopw [3, 4] (fun b i wr => ∃ (j : Nat), j ≤ h.F.length ∧ i = .int .i64 (j : Int) ∧ b = .bool true ∧ Hid (Below w.heap.size w wr)) (fun _ i _ => h.F.length - (intOf i).toNat)
 case atStart => exact ⟨0, by omega, rfl, rfl, Lib.hid (Below.refl _ _)⟩
 case round =>
  rename_i wr
  obtain ⟨j, hj, rfl, rfl, HB⟩ := hrel
  have k1 := Kp.cellOf (own := own) HB.out HK1.out
  by_cases hlt : j < h.F.length
  ·
   have dl : decide ((j : Int) < (h.F.length : Int)) = true := by simp; omega
   obtain ⟨p, hp⟩ : ∃ p, h.F[j]? = some p := ⟨h.F[j], List.getElem?_eq_getElem hlt⟩
   obtain ⟨q, hq, hqp⟩ := same_at HS.out.f hp
   obtain ⟨a1, rfl, e1⟩ := sl_at HC1.out j hlt p.1 (by rw [List.getElem?_map, hp]; rfl)
   obtain ⟨a2, rfl, e2⟩ := sl_at HC2.out j hlt q.1 (by rw [List.getElem?_map, hq]; rfl)
   have e3 : (convert 22 9 (.slice p.1.A p.1.n p.1.c)).run Try.prog wr.drew = .ok (.string (strOfNums p.2)) wr.drew := conv_str (Kd.C_below (ow_len (HW.out.f0.2 j p hp)).2.2 (HB.out.drew))
   have e4 : (convert 22 9 (.slice q.1.A q.1.n q.1.c)).run Try.prog wr.drew = .ok (.string (strOfNums p.2)) wr.drew := conv_str (Kd.C_below (hqp ▸ (HW.out.f1.2 q (List.mem_of_getElem? hq)).1) (HB.out.drew))
   have f1 := Kp.cellOf (own := own) HB.out e1
   have f2 := Kp.cellOf (own := own) HB.out e2
   have k2 := Kp.cellOf (own := own) HB.out HK2.out
   simp only [Sl.enc] at f1 f2
   clear e1 e2 hqp hq hp
   go_wp2_with fail
   refine start_ (n := 23) (S := fun w' => w'.cell? ⟨g, 1, none⟩ = some (.slice (some a1) h.F.length c1) ∧ w'.cell? (a1.add j) = some (.slice p.1.A p.1.n p.1.c) ∧ (convert 22 9 (.slice p.1.A p.1.n p.1.c)).run Try.prog w' = .ok (.string (strOfNums p.2)) w' ∧ w'.cell? ⟨g, 2, none⟩ = some (.slice (some a2) h.F.length c2) ∧ w'.cell? (a2.add j) = some (.slice q.1.A q.1.n q.1.c) ∧ (convert 22 9 (.slice q.1.A q.1.n q.1.c)).run Try.prog w' = .ok (.string (strOfNums p.2)) w') (ds := []) #[false, false, false, false, false, false, false, false, false, false, false, false, false, false, false, false, false, false, false, false, false, false, false] (by kernel_rfl) rfl rfl ⟨k1, f1, e3, k2, f2, e4⟩ (fun hHeld => ?_)
   refine pu_ (i := 0) (N := some 19) (v := ?_) (a' := ?_) rfl rfl (by kernel_rfl) (fun _ _ _ h => h) (by rfl) ?_ ?_ ?_
   rotate_left
   · (intro w'; go_simp; with_reducible rfl)
   rotate_left
   · (simp only [put_s, List.set, i64_w, i32_w]; rfl)
   refine pu_ (i := 1) (N := some 20) (v := ?_) (a' := ?_) rfl rfl (by kernel_rfl) (fun _ _ _ h => h) (by rfl) ?_ ?_ ?_
   rotate_left
   · (intro w'; go_simp; with_reducible rfl)
   rotate_left
   · (simp only [put_s, List.set, i64_w, i32_w]; rfl)
   refine pu_ (i := 2) (N := some 21) (v := ?_) (a' := ?_) rfl rfl (by kernel_rfl) (fun _ _ _ h => h) (by rfl) ?_ ?_ ?_
   rotate_left
   · (intro w'; go_simp; with_reducible rfl)
   rotate_left
   · (simp only [put_s, List.set, i64_w, i32_w]; rfl)
   refine pu_ (i := 3) (N := some 22) (v := ?_) (a' := ?_) rfl rfl (by kernel_rfl) (fun _ _ _ h => h) (by rfl) ?_ ?_ ?_
   rotate_left
   · (intro w'; go_simp; with_reducible rfl)
   rotate_left
   · (simp only [put_s, List.set, i64_w, i32_w]; rfl)
   refine pu_ (i := 4) (N := some 23) (v := ?_) (a' := ?_) rfl rfl (by kernel_rfl) (fun _ _ _ h => h) (by rfl) ?_ ?_ ?_
   rotate_left
   · (intro w'; go_simp; with_reducible rfl)
   rotate_left
   · (simp only [put_s, List.set, i64_w, i32_w]; rfl)
   refine pu_ (i := 5) (N := some 24) (v := ?_) (a' := ?_) rfl rfl (by kernel_rfl) (fun _ _ _ h => h) (by rfl) ?_ ?_ ?_
   rotate_left
   · (intro w'; go_simp; with_reducible rfl)
   rotate_left
   · (simp only [put_s, List.set, i64_w, i32_w]; rfl)
   refine tk_ (i := 6) (N := some 25) (v := ?_) (a' := ?_) rfl rfl (by kernel_rfl) (fun _ _ _ h => h) (by rfl) ?_ hHeld ?_ ?_
   rotate_left
   · (intro w' s0; go_simp; with_reducible rfl)
   rotate_left
   · (simp only [put_s, List.set, i64_w, i32_w]; rfl)
   refine pu_ (i := 7) (N := some 26) (v := ?_) (a' := ?_) rfl rfl (by kernel_rfl) (fun _ _ _ h => h) (by rfl) ?_ ?_ ?_
   rotate_left
   · (intro w'; go_simp; with_reducible rfl)
   rotate_left
   · (simp only [put_s, List.set, i64_w, i32_w]; rfl)
   refine pu_ (i := 8) (N := some 27) (v := ?_) (a' := ?_) rfl rfl (by kernel_rfl) (fun _ _ _ h => h) (by rfl) ?_ ?_ ?_
   rotate_left
   · (intro w'; go_simp; with_reducible rfl)
   rotate_left
   · (simp only [put_s, List.set, i64_w, i32_w]; rfl)
   refine tk_ (i := 9) (N := some 28) (v := ?_) (a' := ?_) rfl rfl (by kernel_rfl) (fun _ _ _ h => h) (by rfl) ?_ hHeld ?_ ?_
   rotate_left
   · (intro w' s0; go_simp; with_reducible rfl)
   rotate_left
   · (simp only [put_s, List.set, i64_w, i32_w]; rfl)
   refine tk_ (i := 10) (N := some 29) (v := ?_) (a' := ?_) rfl rfl (by kernel_rfl) (fun _ _ _ h => h) (by rfl) ?_ hHeld ?_ ?_
   rotate_left
   · (intro w' s0; go_simp; with_reducible rfl)
   rotate_left
   · (simp only [put_s, List.set, i64_w, i32_w]; rfl)
   refine pu_ (i := 11) (N := some 30) (v := ?_) (a' := ?_) rfl rfl (by kernel_rfl) (fun _ _ _ h => h) (by rfl) ?_ ?_ ?_
   rotate_left
   · (intro w'; go_simp; with_reducible rfl)
   rotate_left
   · (simp only [put_s, List.set, i64_w, i32_w]; rfl)
   refine pu_ (i := 12) (N := some 31) (v := ?_) (a' := ?_) rfl rfl (by kernel_rfl) (fun _ _ _ h => h) (by rfl) ?_ ?_ ?_
   rotate_left
   · (intro w'; go_simp; with_reducible rfl)
   rotate_left
   · (simp only [put_s, List.set, i64_w, i32_w]; rfl)
   refine pu_ (i := 13) (N := some 32) (v := ?_) (a' := ?_) rfl rfl (by kernel_rfl) (fun _ _ _ h => h) (by rfl) ?_ ?_ ?_
   rotate_left
   · (intro w'; go_simp; with_reducible rfl)
   rotate_left
   · (simp only [put_s, List.set, i64_w, i32_w]; rfl)
   refine pu_ (i := 14) (N := some 33) (v := ?_) (a' := ?_) rfl rfl (by kernel_rfl) (fun _ _ _ h => h) (by rfl) ?_ ?_ ?_
   rotate_left
   · (intro w'; go_simp; with_reducible rfl)
   rotate_left
   · (simp only [put_s, List.set, i64_w, i32_w]; rfl)
   refine tk_ (i := 15) (N := some 34) (v := ?_) (a' := ?_) rfl rfl (by kernel_rfl) (fun _ _ _ h => h) (by rfl) ?_ hHeld ?_ ?_
   rotate_left
   · (intro w' s0; go_simp; with_reducible rfl)
   rotate_left
   · (simp only [put_s, List.set, i64_w, i32_w]; rfl)
   refine pu_ (i := 16) (N := some 35) (v := ?_) (a' := ?_) rfl rfl (by kernel_rfl) (fun _ _ _ h => h) (by rfl) ?_ ?_ ?_
   rotate_left
   · (intro w'; go_simp; with_reducible rfl)
   rotate_left
   · (simp only [put_s, List.set, i64_w, i32_w]; rfl)
   refine pu_ (i := 17) (N := some 36) (v := ?_) (a' := ?_) rfl rfl (by kernel_rfl) (fun _ _ _ h => h) (by rfl) ?_ ?_ ?_
   rotate_left
   · (intro w'; go_simp; with_reducible rfl)
   rotate_left
   · (simp only [put_s, List.set, i64_w, i32_w]; rfl)
   refine tk_ (i := 18) (N := some 37) (v := ?_) (a' := ?_) rfl rfl (by kernel_rfl) (fun _ _ _ h => h) (by rfl) ?_ hHeld ?_ ?_
   rotate_left
   · (intro w' s0; go_simp; with_reducible rfl)
   rotate_left
   · (simp only [put_s, List.set, i64_w, i32_w]; rfl)
   refine tk_ (i := 19) (N := some 38) (v := ?_) (a' := ?_) rfl rfl (by kernel_rfl) (fun _ _ _ h => h) (by rfl) ?_ hHeld ?_ ?_
   rotate_left
   · (intro w' s0; go_simp; with_reducible rfl)
   rotate_left
   · (simp only [put_s, List.set, i64_w, i32_w]; rfl)
   refine pu_ (i := 20) (N := some 39) (v := ?_) (a' := ?_) rfl rfl (by kernel_rfl) (fun _ _ _ h => h) (by rfl) ?_ ?_ ?_
   rotate_left
   · (intro w'; go_simp; with_reducible rfl)
   rotate_left
   · (simp only [put_s, List.set, i64_w, i32_w]; rfl)
   refine pu_ (i := 21) (N := some 40) (v := ?_) (a' := ?_) rfl rfl (by kernel_rfl) (fun _ _ _ h => h) (by rfl) ?_ ?_ ?_
   rotate_left
   · (intro w'; go_simp; with_reducible rfl)
   rotate_left
   · (simp only [put_s, List.set, i64_w, i32_w]; rfl)
   refine pu_ (i := 22) (N := some 3) (v := ?_) (a' := ?_) rfl rfl (by kernel_rfl) (fun _ _ _ h => h) (by rfl) ?_ ?_ ?_
   rotate_left
   · (intro w'; go_simp; with_reducible rfl)
   rotate_left
   · (simp only [put_s, List.set, i64_w, i32_w]; rfl)
   refine done_ (by kernel_rfl) ?_
   go_wp2_with fail
   exact ⟨⟨j + 1, by omega, by go_num, rfl, Lib.hid HB.out.drew⟩, by simp [intOf]; omega⟩
  ·
   obtain rfl : j = h.F.length := by omega
   have dl : decide (((h.F.length : Nat) : Int) < (h.F.length : Int)) = false := by simp
   go_wp2_with fail
   obtain ⟨A3, c3, hc3, k3, hl3⟩ := row_at (i := 3) HW.out.blk rfl HW.out.t0.1
   obtain ⟨A4, c4, hc4, k4, hl4⟩ := row_at (i := 4) HW.out.blk rfl HW.out.t1.1
   rw [List.length_map] at hc3 k3 hl3 hc4 k4 hl4
   rw [same_len HS.out.t] at hc4 k4 hl4
   have HC3 := Lib.hid hl3
   have HC4 := Lib.hid hl4
   have HK3 := Lib.hid k3
   have HK4 := Lib.hid k4
   have HBe := Lib.hid HB.out
   clear hl3 hl4 k3 k4
   go_loopw [3, 5, 6] (fun b i k wr => ∃ (j : Nat), j ≤ h.T.length ∧ i = .int .i64 (j : Int) ∧ b = .bool true ∧ Hid (Below w.heap.size w wr)) (fun _ i _ _ => h.T.length - (intOf i).toNat)
   case atStart => exact ⟨0, by omega, rfl, rfl, HBe⟩
   case round =>
    rename_i wr
    clear HBe
    obtain ⟨j, hj, rfl, rfl, HBo⟩ := hrel
    have k3 := Kp.cellOf (own := own) HBo.out HK3.out
    by_cases hlt : j < h.T.length
    ·
     have dl : decide ((j : Int) < (h.T.length : Int)) = true := by simp; omega
     obtain ⟨p, hp⟩ : ∃ p, h.T[j]? = some p := ⟨h.T[j], List.getElem?_eq_getElem hlt⟩
     obtain ⟨q, hq, hqp⟩ := same_at HS.out.t hp
     obtain ⟨a3, rfl, e1⟩ := sl_at HC3.out j hlt p.1 (by rw [List.getElem?_map, hp]; rfl)
     obtain ⟨a4, rfl, e2⟩ := sl_at HC4.out j hlt q.1 (by rw [List.getElem?_map, hq]; rfl)
     obtain ⟨hp1, hp2, hp3⟩ := ow_len (HW.out.t0.2 j p hp)
     have hq3 := (HW.out.t1.2 q (List.mem_of_getElem? hq))
     have hq1 : q.2.length = q.1.n := Kd_C_len hq3.1
     simp only [Sl.enc] at e1 e2
     rw [← hp1] at e1 hp3 hp2
     have hq2 := hq3.2.1
     have hq4 := hq3.1
     rw [← hq1, hqp] at e2 hq4 hq2
     have HP := Lib.hid hp3
     have HQ := Lib.hid hq4
     have HE1 := Lib.hid e1
     have HE2 := Lib.hid e2
     have HDT := Lib.hid (HS.out.dt p (List.mem_of_getElem? hp))
     have hpx := HM.out.tx p (List.mem_of_getElem? hp)
     generalize p.1.A = B3 at HP HE1
     generalize p.1.c = d3 at HE1 hp2
     generalize q.1.A = B4 at HQ HE2
     generalize q.1.c = d4 at HE2 hq2
     clear e1 e2 hqp hq hp hp1 hp3 hq3 hq4 hq1
     go_wp2_with fail
     clear k3
     go_loopw [3, 6] (fun b k wr => ∃ (t : Nat), t ≤ p.2.length ∧ k = .int .i64 (t : Int) ∧ b = .bool true ∧ Hid (Below w.heap.size w wr)) (fun _ k _ => p.2.length - (intOf k).toNat)
     case atStart => exact ⟨0, by omega, rfl, rfl, HBo⟩
     case round =>
      rename_i wi
      obtain ⟨t, ht, rfl, rfl, HBi⟩ := hrel
      have k3 := Kp.cellOf (own := own) HBi.out HK3.out
      have f3 := Kp.cellOf (own := own) HBi.out HE1.out
      by_cases htl : t < p.2.length
      ·
       have dt : decide ((t : Int) < (p.2.length : Int)) = true := by simp; omega
       have k4 := Kp.cellOf (own := own) HBi.out HK4.out
       have f4 := Kp.cellOf (own := own) HBi.out HE2.out
       obtain ⟨x, hx⟩ : ∃ x, p.2[t]? = some x := ⟨p.2[t], List.getElem?_eq_getElem htl⟩
       obtain ⟨bs, hbs, _⟩ := HDT.out x (List.mem_of_getElem? hx)
       obtain ⟨b3, rfl, x0, x1, x2, x3, x4⟩ := mc_at (Kd.C_below HP.out HBi.out) t htl x hx
       obtain ⟨b4, rfl, y0, y1, y2, y3, y4⟩ := mc_at (Kd.C_below HQ.out HBi.out) t htl x hx
       have HBS := Lib.hid (BytesAt.below (B := 0) hbs HBi.out.drew)
       simp only [Sl.enc] at x4 y4
       clear hx hbs
       go_wp2_with fail
       refine start_ (n := 24) (S := fun w' => w'.cell? ⟨g, 3, none⟩ = some (.slice (some a3) h.T.length c3) ∧ w'.cell? (a3.add j) = some (.slice (some b3) p.2.length d3) ∧ w'.cell? (b3.add (t * 5)) = some (.int .i64 x.f0) ∧ w'.cell? ⟨(b3.add (t * 5)).block, (b3.add (t * 5)).off + 1, none⟩ = some (.int .i64 x.f1) ∧ w'.cell? ⟨(b3.add (t * 5)).block, (b3.add (t * 5)).off + 2, none⟩ = some (.string x.f2) ∧ w'.cell? ⟨(b3.add (t * 5)).block, (b3.add (t * 5)).off + 3, none⟩ = some (.int .i64 x.f3) ∧ w'.cell? ⟨(b3.add (t * 5)).block, (b3.add (t * 5)).off + 4, none⟩ = some (.slice x.d.A x.d.n x.d.c) ∧ w'.cell? ⟨g, 4, none⟩ = some (.slice (some a4) h.T.length c4) ∧ w'.cell? (a4.add j) = some (.slice (some b4) p.2.length d4) ∧ w'.cell? (b4.add (t * 5)) = some (.int .i64 x.f0) ∧ w'.cell? ⟨(b4.add (t * 5)).block, (b4.add (t * 5)).off + 1, none⟩ = some (.int .i64 x.f1) ∧ w'.cell? ⟨(b4.add (t * 5)).block, (b4.add (t * 5)).off + 2, none⟩ = some (.string x.f2) ∧ w'.cell? ⟨(b4.add (t * 5)).block, (b4.add (t * 5)).off + 3, none⟩ = some (.int .i64 x.f3) ∧ w'.cell? ⟨(b4.add (t * 5)).block, (b4.add (t * 5)).off + 4, none⟩ = some (.slice x.d.A x.d.n x.d.c)) (ds := [22]) #[false, false, false, false, false, false, false, false, false, false, false, false, false, false, false, false, false, false, false, false, false, false, false, false] (by kernel_rfl) rfl rfl ⟨k3, f3, x0, x1, x2, x3, x4, k4, f4, y0, y1, y2, y3, y4⟩ (fun hHeld => ?_)
       refine pu_ (i := 0) (N := some 67) (v := ?_) (a' := ?_) rfl rfl (by kernel_rfl) (fun _ _ _ h => h) (by rfl) ?_ ?_ ?_
       rotate_left
       · (intro w'; go_simp; with_reducible rfl)
       rotate_left
       · (simp only [put_s, List.set, i64_w, i32_w]; rfl)
       refine pu_ (i := 1) (N := some 68) (v := ?_) (a' := ?_) rfl rfl (by kernel_rfl) (fun _ _ _ h => h) (by rfl) ?_ ?_ ?_
       rotate_left
       · (intro w'; go_simp; with_reducible rfl)
       rotate_left
       · (simp only [put_s, List.set, i64_w, i32_w]; rfl)
       refine pu_ (i := 2) (N := some 69) (v := ?_) (a' := ?_) rfl rfl (by kernel_rfl) (fun _ _ _ h => h) (by rfl) ?_ ?_ ?_
       rotate_left
       · (intro w'; go_simp; with_reducible rfl)
       rotate_left
       · (simp only [put_s, List.set, i64_w, i32_w]; rfl)
       refine pu_ (i := 3) (N := some 70) (v := ?_) (a' := ?_) rfl rfl (by kernel_rfl) (fun _ _ _ h => h) (by rfl) ?_ ?_ ?_
       rotate_left
       · (intro w'; go_simp; with_reducible rfl)
       rotate_left
       · (simp only [put_s, List.set, i64_w, i32_w]; rfl)
       refine tk_ (i := 4) (N := some 71) (v := ?_) (a' := ?_) rfl rfl (by kernel_rfl) (fun _ _ _ h => h) (by rfl) ?_ hHeld ?_ ?_
       rotate_left
       · (intro w' s0; go_simp; with_reducible rfl)
       rotate_left
       · (simp only [put_s, List.set, i64_w, i32_w]; rfl)
       refine pu_ (i := 5) (N := some 72) (v := ?_) (a' := ?_) rfl rfl (by kernel_rfl) (fun _ _ _ h => h) (by rfl) ?_ ?_ ?_
       rotate_left
       · (intro w'; go_simp; with_reducible rfl)
       rotate_left
       · (simp only [put_s, List.set, i64_w, i32_w]; rfl)
       refine pu_ (i := 6) (N := some 73) (v := ?_) (a' := ?_) rfl rfl (by kernel_rfl) (fun _ _ _ h => h) (by rfl) ?_ ?_ ?_
       rotate_left
       · (intro w'; go_simp; with_reducible rfl)
       rotate_left
       · (simp only [put_s, List.set, i64_w, i32_w]; rfl)
       refine tk_ (i := 7) (N := some 74) (v := ?_) (a' := ?_) rfl rfl (by kernel_rfl) (fun _ _ _ h => h) (by rfl) ?_ hHeld ?_ ?_
       rotate_left
       · (intro w' s0; go_simp; with_reducible rfl)
       rotate_left
       · (simp only [put_s, List.set, i64_w, i32_w]; rfl)
       refine pu_ (i := 8) (N := some 75) (v := ?_) (a' := ?_) rfl rfl (by kernel_rfl) (fun _ _ _ h => h) (by rfl) ?_ ?_ ?_
       rotate_left
       · (intro w'; go_simp; with_reducible rfl)
       rotate_left
       · (simp only [put_s, List.set, i64_w, i32_w]; rfl)
       refine pu_ (i := 9) (N := some 76) (v := ?_) (a' := ?_) rfl rfl (by kernel_rfl) (fun _ _ _ h => h) (by rfl) ?_ ?_ ?_
       rotate_left
       · (intro w'; go_simp; with_reducible rfl)
       rotate_left
       · (simp only [put_s, List.set, i64_w, i32_w]; rfl)
       refine tk_ (i := 10) (N := some 77) (v := ?_) (a' := ?_) rfl rfl (by kernel_rfl) (fun _ _ _ h => h) (by rfl) ?_ hHeld ?_ ?_
       rotate_left
       · (intro w' s0; go_simp; with_reducible rfl)
       rotate_left
       · (simp only [put_s, List.set, i64_w, i32_w]; rfl)
       refine pu_ (i := 11) (N := some 78) (v := ?_) (a' := ?_) rfl rfl (by kernel_rfl) (fun _ _ _ h => h) (by rfl) ?_ ?_ ?_
       rotate_left
       · (intro w'; go_simp; with_reducible rfl)
       rotate_left
       · (simp only [put_s, List.set, i64_w, i32_w]; rfl)
       refine pu_ (i := 12) (N := some 79) (v := ?_) (a' := ?_) rfl rfl (by kernel_rfl) (fun _ _ _ h => h) (by rfl) ?_ ?_ ?_
       rotate_left
       · (intro w'; go_simp; with_reducible rfl)
       rotate_left
       · (simp only [put_s, List.set, i64_w, i32_w]; rfl)
       refine pu_ (i := 13) (N := some 80) (v := ?_) (a' := ?_) rfl rfl (by kernel_rfl) (fun _ _ _ h => h) (by rfl) ?_ ?_ ?_
       rotate_left
       · (intro w'; go_simp; with_reducible rfl)
       rotate_left
       · (simp only [put_s, List.set, i64_w, i32_w]; rfl)
       refine pu_ (i := 14) (N := some 81) (v := ?_) (a' := ?_) rfl rfl (by kernel_rfl) (fun _ _ _ h => h) (by rfl) ?_ ?_ ?_
       rotate_left
       · (intro w'; go_simp; with_reducible rfl)
       rotate_left
       · (simp only [put_s, List.set, i64_w, i32_w]; rfl)
       refine tk_ (i := 15) (N := some 82) (v := ?_) (a' := ?_) rfl rfl (by kernel_rfl) (fun _ _ _ h => h) (by rfl) ?_ hHeld ?_ ?_
       rotate_left
       · (intro w' s0; go_simp; with_reducible rfl)
       rotate_left
       · (simp only [put_s, List.set, i64_w, i32_w]; rfl)
       refine pu_ (i := 16) (N := some 83) (v := ?_) (a' := ?_) rfl rfl (by kernel_rfl) (fun _ _ _ h => h) (by rfl) ?_ ?_ ?_
       rotate_left
       · (intro w'; go_simp; with_reducible rfl)
       rotate_left
       · (simp only [put_s, List.set, i64_w, i32_w]; rfl)
       refine pu_ (i := 17) (N := some 84) (v := ?_) (a' := ?_) rfl rfl (by kernel_rfl) (fun _ _ _ h => h) (by rfl) ?_ ?_ ?_
       rotate_left
       · (intro w'; go_simp; with_reducible rfl)
       rotate_left
       · (simp only [put_s, List.set, i64_w, i32_w]; rfl)
       refine tk_ (i := 18) (N := some 85) (v := ?_) (a' := ?_) rfl rfl (by kernel_rfl) (fun _ _ _ h => h) (by rfl) ?_ hHeld ?_ ?_
       rotate_left
       · (intro w' s0; go_simp; with_reducible rfl)
       rotate_left
       · (simp only [put_s, List.set, i64_w, i32_w]; rfl)
       refine pu_ (i := 19) (N := some 86) (v := ?_) (a' := ?_) rfl rfl (by kernel_rfl) (fun _ _ _ h => h) (by rfl) ?_ ?_ ?_
       rotate_left
       · (intro w'; go_simp; with_reducible rfl)
       rotate_left
       · (simp only [put_s, List.set, i64_w, i32_w]; rfl)
       refine pu_ (i := 20) (N := some 87) (v := ?_) (a' := ?_) rfl rfl (by kernel_rfl) (fun _ _ _ h => h) (by rfl) ?_ ?_ ?_
       rotate_left
       · (intro w'; go_simp; with_reducible rfl)
       rotate_left
       · (simp only [put_s, List.set, i64_w, i32_w]; rfl)
       refine tk_ (i := 21) (N := some 88) (v := ?_) (a' := ?_) rfl rfl (by kernel_rfl) (fun _ _ _ h => h) (by rfl) ?_ hHeld ?_ ?_
       rotate_left
       · (intro w' s0; go_simp; with_reducible rfl)
       rotate_left
       · (simp only [put_s, List.set, i64_w, i32_w]; rfl)
       refine la_ (i := 22) (N := some 89) rfl rfl (by kernel_rfl) (by decide) (fun K hK => ?_)
       refine goes_ Try.func14 (by kernel_rfl) rfl #[.agg #[.int .i64 x.f0, .int .i64 x.f1, .string x.f2, .int .i64 x.f3, .slice x.d.A x.d.n x.d.c], .agg #[.int .i64 x.f0, .int .i64 x.f1, .string x.f2, .int .i64 x.f3, .slice x.d.A x.d.n x.d.c]] (by rfl) rfl rfl (by simp [Act.eval]) ?_
       refine Calls.mono (Go.Proofs.Ytpflenaoplblkaa.ProX.same_yes ⟨x.f0, x.f1, x.f2, x.f3, bs⟩ x.d.A x.d.A x.d.n x.d.n x.d.c x.d.c _ HBS.out HBS.out) ?_
       rintro e w2 ⟨rfl, hb2⟩
       have HB2 := Lib.hid (HBi.out.drew.trans (hb2.mono (HBi.out.size)))
       clear hb2
       refine ⟨_, rfl, ?_⟩
       refine hK.out _ _ ?_
       clear hK K
       refine norm_ (a' := ?_) ?_ ?_
       rotate_left
       ·
        show Act.put _ (some 89) _ = _
        simp only [put_s, List.set, i64_w, i32_w]
        rfl
       refine pu_ (i := 23) (N := some 3) (v := ?_) (a' := ?_) rfl rfl (by kernel_rfl) (fun _ _ _ h => h) (by rfl) ?_ ?_ ?_
       rotate_left
       · (intro w'; go_simp; with_reducible rfl)
       rotate_left
       · (simp only [put_s, List.set, i64_w, i32_w]; rfl)
       refine done_ (by kernel_rfl) ?_
       go_wp2_with fail
       exact ⟨⟨t + 1, by omega, by go_num, rfl, HB2⟩, by simp [intOf]; omega⟩
      ·
       obtain rfl : t = p.2.length := by omega
       have dt : decide (((p.2.length : Nat) : Int) < (p.2.length : Int)) = false := by simp
       go_wp2_with fail
       exact ⟨⟨j + 1, by omega, by go_num, rfl, HBi⟩, by simp [intOf]; omega⟩
    ·
     obtain rfl : j = h.T.length := by omega
     have dl : decide (((h.T.length : Nat) : Int) < (h.T.length : Int)) = false := by simp
     go_wp2_with fail
     obtain ⟨A3, c3, hc3, k3, hl3⟩ := row_at (i := 5) HW.out.blk rfl HW.out.a0.1
     obtain ⟨A4, c4, hc4, k4, hl4⟩ := row_at (i := 6) HW.out.blk rfl HW.out.a1.1
     rw [List.length_map] at hc3 k3 hl3 hc4 k4 hl4
     rw [same_len HS.out.a] at hc4 k4 hl4
     have HC3 := Lib.hid hl3
     have HC4 := Lib.hid hl4
     have HK3 := Lib.hid k3
     have HK4 := Lib.hid k4
     have HBe := Lib.hid HBo.out
     clear hl3 hl4 k3 k4
     go_loopw [3, 7, 8] (fun b i k wr => ∃ (j : Nat), j ≤ h.A.length ∧ i = .int .i64 (j : Int) ∧ b = .bool true ∧ Hid (Below w.heap.size w wr)) (fun _ i _ _ => h.A.length - (intOf i).toNat)
     case atStart => exact ⟨0, by omega, rfl, rfl, HBe⟩
     case round =>
      rename_i wr
      clear HBe
      obtain ⟨j, hj, rfl, rfl, HBo⟩ := hrel
      have k3 := Kp.cellOf (own := own) HBo.out HK3.out
      by_cases hlt : j < h.A.length
      ·
       have dl : decide ((j : Int) < (h.A.length : Int)) = true := by simp; omega
       obtain ⟨p, hp⟩ : ∃ p, h.A[j]? = some p := ⟨h.A[j], List.getElem?_eq_getElem hlt⟩
       obtain ⟨q, hq, hqp⟩ := same_at HS.out.a hp
       obtain ⟨a3, rfl, e1⟩ := sl_at HC3.out j hlt p.1 (by rw [List.getElem?_map, hp]; rfl)
       obtain ⟨a4, rfl, e2⟩ := sl_at HC4.out j hlt q.1 (by rw [List.getElem?_map, hq]; rfl)
       obtain ⟨hp1, hp2, hp3⟩ := ow_len (HW.out.a0.2 j p hp)
       have hq3 := (HW.out.a1.2 q (List.mem_of_getElem? hq))
       have hq1 : q.2.length = q.1.n := Kd_C_len hq3.1
       simp only [Sl.enc] at e1 e2
       rw [← hp1] at e1 hp3 hp2
       have hq2 := hq3.2.1
       have hq4 := hq3.1
       rw [← hq1, hqp] at e2 hq4 hq2
       have HP := Lib.hid hp3
       have HQ := Lib.hid hq4
       have HE1 := Lib.hid e1
       have HE2 := Lib.hid e2
       have HDT := Lib.hid (HS.out.da p (List.mem_of_getElem? hp))
       have hpx := HM.out.ax p (List.mem_of_getElem? hp)
       generalize p.1.A = B3 at HP HE1
       generalize p.1.c = d3 at HE1 hp2
       generalize q.1.A = B4 at HQ HE2
       generalize q.1.c = d4 at HE2 hq2
       clear e1 e2 hqp hq hp hp1 hp3 hq3 hq4 hq1
       go_wp2_with fail
       clear k3
       go_loopw [3, 8] (fun b k wr => ∃ (t : Nat), t ≤ p.2.length ∧ k = .int .i64 (t : Int) ∧ b = .bool true ∧ Hid (Below w.heap.size w wr)) (fun _ k _ => p.2.length - (intOf k).toNat)
       case atStart => exact ⟨0, by omega, rfl, rfl, HBo⟩
       case round =>
        rename_i wi
        obtain ⟨t, ht, rfl, rfl, HBi⟩ := hrel
        have k3 := Kp.cellOf (own := own) HBi.out HK3.out
        have f3 := Kp.cellOf (own := own) HBi.out HE1.out
        by_cases htl : t < p.2.length
        ·
         have dt : decide ((t : Int) < (p.2.length : Int)) = true := by simp; omega
         have k4 := Kp.cellOf (own := own) HBi.out HK4.out
         have f4 := Kp.cellOf (own := own) HBi.out HE2.out
         obtain ⟨x, hx⟩ : ∃ x, p.2[t]? = some x := ⟨p.2[t], List.getElem?_eq_getElem htl⟩
         obtain ⟨bs, hbs, _⟩ := HDT.out x (List.mem_of_getElem? hx)
         obtain ⟨b3, rfl, x0, x1, x2, x3⟩ := rc_at (Kd.C_below HP.out HBi.out) t htl x hx
         obtain ⟨b4, rfl, y0, y1, y2, y3⟩ := rc_at (Kd.C_below HQ.out HBi.out) t htl x hx
         have HBS := Lib.hid (BytesAt.below (B := 0) hbs HBi.out.drew)
         simp only [Sl.enc] at x3 y3
         clear hx hbs
         go_wp2_with fail
         refine start_ (n := 24) (S := fun w' => w'.cell? ⟨g, 5, none⟩ = some (.slice (some a3) h.A.length c3) ∧ w'.cell? (a3.add j) = some (.slice (some b3) p.2.length d3) ∧ w'.cell? (b3.add (t * 4)) = some (.int .i64 x.f0) ∧ w'.cell? ⟨(b3.add (t * 4)).block, (b3.add (t * 4)).off + 1, none⟩ = some (.int .i64 x.f1) ∧ w'.cell? ⟨(b3.add (t * 4)).block, (b3.add (t * 4)).off + 2, none⟩ = some (.int .i64 x.f2) ∧ w'.cell? ⟨(b3.add (t * 4)).block, (b3.add (t * 4)).off + 3, none⟩ = some (.slice x.d.A x.d.n x.d.c) ∧ w'.cell? ⟨g, 6, none⟩ = some (.slice (some a4) h.A.length c4) ∧ w'.cell? (a4.add j) = some (.slice (some b4) p.2.length d4) ∧ w'.cell? (b4.add (t * 4)) = some (.int .i64 x.f0) ∧ w'.cell? ⟨(b4.add (t * 4)).block, (b4.add (t * 4)).off + 1, none⟩ = some (.int .i64 x.f1) ∧ w'.cell? ⟨(b4.add (t * 4)).block, (b4.add (t * 4)).off + 2, none⟩ = some (.int .i64 x.f2) ∧ w'.cell? ⟨(b4.add (t * 4)).block, (b4.add (t * 4)).off + 3, none⟩ = some (.slice x.d.A x.d.n x.d.c)) (ds := [22]) #[false, false, false, false, false, false, false, false, false, false, false, false, false, false, false, false, false, false, false, false, false, false, false, false] (by kernel_rfl) rfl rfl ⟨k3, f3, x0, x1, x2, x3, k4, f4, y0, y1, y2, y3⟩ (fun hHeld => ?_)
         refine pu_ (i := 0) (N := some 116) (v := ?_) (a' := ?_) rfl rfl (by kernel_rfl) (fun _ _ _ h => h) (by rfl) ?_ ?_ ?_
         rotate_left
         · (intro w'; go_simp; with_reducible rfl)
         rotate_left
         · (simp only [put_s, List.set, i64_w, i32_w]; rfl)
         refine pu_ (i := 1) (N := some 117) (v := ?_) (a' := ?_) rfl rfl (by kernel_rfl) (fun _ _ _ h => h) (by rfl) ?_ ?_ ?_
         rotate_left
         · (intro w'; go_simp; with_reducible rfl)
         rotate_left
         · (simp only [put_s, List.set, i64_w, i32_w]; rfl)
         refine pu_ (i := 2) (N := some 118) (v := ?_) (a' := ?_) rfl rfl (by kernel_rfl) (fun _ _ _ h => h) (by rfl) ?_ ?_ ?_
         rotate_left
         · (intro w'; go_simp; with_reducible rfl)
         rotate_left
         · (simp only [put_s, List.set, i64_w, i32_w]; rfl)
         refine pu_ (i := 3) (N := some 119) (v := ?_) (a' := ?_) rfl rfl (by kernel_rfl) (fun _ _ _ h => h) (by rfl) ?_ ?_ ?_
         rotate_left
         · (intro w'; go_simp; with_reducible rfl)
         rotate_left
         · (simp only [put_s, List.set, i64_w, i32_w]; rfl)
         refine tk_ (i := 4) (N := some 120) (v := ?_) (a' := ?_) rfl rfl (by kernel_rfl) (fun _ _ _ h => h) (by rfl) ?_ hHeld ?_ ?_
         rotate_left
         · (intro w' s0; go_simp; with_reducible rfl)
         rotate_left
         · (simp only [put_s, List.set, i64_w, i32_w]; rfl)
         refine pu_ (i := 5) (N := some 121) (v := ?_) (a' := ?_) rfl rfl (by kernel_rfl) (fun _ _ _ h => h) (by rfl) ?_ ?_ ?_
         rotate_left
         · (intro w'; go_simp; with_reducible rfl)
         rotate_left
         · (simp only [put_s, List.set, i64_w, i32_w]; rfl)
         refine pu_ (i := 6) (N := some 122) (v := ?_) (a' := ?_) rfl rfl (by kernel_rfl) (fun _ _ _ h => h) (by rfl) ?_ ?_ ?_
         rotate_left
         · (intro w'; go_simp; with_reducible rfl)
         rotate_left
         · (simp only [put_s, List.set, i64_w, i32_w]; rfl)
         refine tk_ (i := 7) (N := some 123) (v := ?_) (a' := ?_) rfl rfl (by kernel_rfl) (fun _ _ _ h => h) (by rfl) ?_ hHeld ?_ ?_
         rotate_left
         · (intro w' s0; go_simp; with_reducible rfl)
         rotate_left
         · (simp only [put_s, List.set, i64_w, i32_w]; rfl)
         refine pu_ (i := 8) (N := some 124) (v := ?_) (a' := ?_) rfl rfl (by kernel_rfl) (fun _ _ _ h => h) (by rfl) ?_ ?_ ?_
         rotate_left
         · (intro w'; go_simp; with_reducible rfl)
         rotate_left
         · (simp only [put_s, List.set, i64_w, i32_w]; rfl)
         refine pu_ (i := 9) (N := some 125) (v := ?_) (a' := ?_) rfl rfl (by kernel_rfl) (fun _ _ _ h => h) (by rfl) ?_ ?_ ?_
         rotate_left
         · (intro w'; go_simp; with_reducible rfl)
         rotate_left
         · (simp only [put_s, List.set, i64_w, i32_w]; rfl)
         refine tk_ (i := 10) (N := some 126) (v := ?_) (a' := ?_) rfl rfl (by kernel_rfl) (fun _ _ _ h => h) (by rfl) ?_ hHeld ?_ ?_
         rotate_left
         · (intro w' s0; go_simp; with_reducible rfl)
         rotate_left
         · (simp only [put_s, List.set, i64_w, i32_w]; rfl)
         refine pu_ (i := 11) (N := some 127) (v := ?_) (a' := ?_) rfl rfl (by kernel_rfl) (fun _ _ _ h => h) (by rfl) ?_ ?_ ?_
         rotate_left
         · (intro w'; go_simp; with_reducible rfl)
         rotate_left
         · (simp only [put_s, List.set, i64_w, i32_w]; rfl)
         refine pu_ (i := 12) (N := some 128) (v := ?_) (a' := ?_) rfl rfl (by kernel_rfl) (fun _ _ _ h => h) (by rfl) ?_ ?_ ?_
         rotate_left
         · (intro w'; go_simp; with_reducible rfl)
         rotate_left
         · (simp only [put_s, List.set, i64_w, i32_w]; rfl)
         refine pu_ (i := 13) (N := some 129) (v := ?_) (a' := ?_) rfl rfl (by kernel_rfl) (fun _ _ _ h => h) (by rfl) ?_ ?_ ?_
         rotate_left
         · (intro w'; go_simp; with_reducible rfl)
         rotate_left
         · (simp only [put_s, List.set, i64_w, i32_w]; rfl)
         refine pu_ (i := 14) (N := some 130) (v := ?_) (a' := ?_) rfl rfl (by kernel_rfl) (fun _ _ _ h => h) (by rfl) ?_ ?_ ?_
         rotate_left
         · (intro w'; go_simp; with_reducible rfl)
         rotate_left
         · (simp only [put_s, List.set, i64_w, i32_w]; rfl)
         refine tk_ (i := 15) (N := some 131) (v := ?_) (a' := ?_) rfl rfl (by kernel_rfl) (fun _ _ _ h => h) (by rfl) ?_ hHeld ?_ ?_
         rotate_left
         · (intro w' s0; go_simp; with_reducible rfl)
         rotate_left
         · (simp only [put_s, List.set, i64_w, i32_w]; rfl)
         refine pu_ (i := 16) (N := some 132) (v := ?_) (a' := ?_) rfl rfl (by kernel_rfl) (fun _ _ _ h => h) (by rfl) ?_ ?_ ?_
         rotate_left
         · (intro w'; go_simp; with_reducible rfl)
         rotate_left
         · (simp only [put_s, List.set, i64_w, i32_w]; rfl)
         refine pu_ (i := 17) (N := some 133) (v := ?_) (a' := ?_) rfl rfl (by kernel_rfl) (fun _ _ _ h => h) (by rfl) ?_ ?_ ?_
         rotate_left
         · (intro w'; go_simp; with_reducible rfl)
         rotate_left
         · (simp only [put_s, List.set, i64_w, i32_w]; rfl)
         refine tk_ (i := 18) (N := some 134) (v := ?_) (a' := ?_) rfl rfl (by kernel_rfl) (fun _ _ _ h => h) (by rfl) ?_ hHeld ?_ ?_
         rotate_left
         · (intro w' s0; go_simp; with_reducible rfl)
         rotate_left
         · (simp only [put_s, List.set, i64_w, i32_w]; rfl)
         refine pu_ (i := 19) (N := some 135) (v := ?_) (a' := ?_) rfl rfl (by kernel_rfl) (fun _ _ _ h => h) (by rfl) ?_ ?_ ?_
         rotate_left
         · (intro w'; go_simp; with_reducible rfl)
         rotate_left
         · (simp only [put_s, List.set, i64_w, i32_w]; rfl)
         refine pu_ (i := 20) (N := some 136) (v := ?_) (a' := ?_) rfl rfl (by kernel_rfl) (fun _ _ _ h => h) (by rfl) ?_ ?_ ?_
         rotate_left
         · (intro w'; go_simp; with_reducible rfl)
         rotate_left
         · (simp only [put_s, List.set, i64_w, i32_w]; rfl)
         refine tk_ (i := 21) (N := some 137) (v := ?_) (a' := ?_) rfl rfl (by kernel_rfl) (fun _ _ _ h => h) (by rfl) ?_ hHeld ?_ ?_
         rotate_left
         · (intro w' s0; go_simp; with_reducible rfl)
         rotate_left
         · (simp only [put_s, List.set, i64_w, i32_w]; rfl)
         refine la_ (i := 22) (N := some 138) rfl rfl (by kernel_rfl) (by decide) (fun K hK => ?_)
         refine goes_ Try.func18 (by kernel_rfl) rfl #[.agg #[.int .i64 x.f0, .int .i64 x.f1, .int .i64 x.f2, .slice x.d.A x.d.n x.d.c], .agg #[.int .i64 x.f0, .int .i64 x.f1, .int .i64 x.f2, .slice x.d.A x.d.n x.d.c]] (by rfl) rfl rfl (by simp [Act.eval]) ?_
         refine Calls.mono (Go.Proofs.Ytpflenaoplblkaa.ProCa.sameReply_yes ⟨x.f0, x.f1, x.f2, bs⟩ x.d.A x.d.A x.d.n x.d.n x.d.c x.d.c _ HBS.out HBS.out) ?_
         rintro e w2 ⟨rfl, hb2⟩
         have HB2 := Lib.hid (HBi.out.drew.trans (hb2.mono (HBi.out.size)))
         clear hb2
         refine ⟨_, rfl, ?_⟩
         refine hK.out _ _ ?_
         clear hK K
         refine norm_ (a' := ?_) ?_ ?_
         rotate_left
         ·
          show Act.put _ (some 138) _ = _
          simp only [put_s, List.set, i64_w, i32_w]
          rfl
         refine pu_ (i := 23) (N := some 3) (v := ?_) (a' := ?_) rfl rfl (by kernel_rfl) (fun _ _ _ h => h) (by rfl) ?_ ?_ ?_
         rotate_left
         · (intro w'; go_simp; with_reducible rfl)
         rotate_left
         · (simp only [put_s, List.set, i64_w, i32_w]; rfl)
         refine done_ (by kernel_rfl) ?_
         go_wp2_with fail
         exact ⟨⟨t + 1, by omega, by go_num, rfl, HB2⟩, by simp [intOf]; omega⟩
        ·
         obtain rfl : t = p.2.length := by omega
         have dt : decide (((p.2.length : Nat) : Int) < (p.2.length : Int)) = false := by simp
         go_wp2_with fail
         exact ⟨⟨j + 1, by omega, by go_num, rfl, HBi⟩, by simp [intOf]; omega⟩
      ·
       obtain rfl : j = h.A.length := by omega
       have dl : decide (((h.A.length : Nat) : Int) < (h.A.length : Int)) = false := by simp
       go_wp2_with fail
       go_ret
       exact ⟨rfl, HBo.out⟩
end Go.Proofs.Ytpflenaoplblkaa.PaP
end
