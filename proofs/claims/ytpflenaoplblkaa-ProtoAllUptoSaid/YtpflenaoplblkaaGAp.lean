import Derived.Test.YtpflenaoplblkaaGAo
section
namespace Go.Proofs.Ytpflenaoplblkaa.PaW
open Go.RowKit YtpflenaoplblkaaW.PrintWords YtpflenaoplblkaaW.PrintLast ProA ProB ProC ProI ProD ProG ProJ ProK ProL ProM ProN ProO ProP ProQ ProR ProU ProZ ProBb PaA
open ProH (msgTab repTab ba)
open ProS PaI PaJ PaK PaL
open PaM PaN PaO PaP PaQ PaR PaS PaT PaU PaV PaWa
set_option linter.unusedVariables false
set_option linter.unusedSimpArgs false
theorem relBM {w0 w : World} {own o : Nat → Nat} {gf g j : Nat} {a0 a1 a2 : Int} {s : St} {h : Gh} {sb sk : Sl} {B : List (Sl × List Int)} {Ks : List Int} (HR : RelB w0 own gf g s h a0 a1 a2 j w o sb sk B Ks) (hM : Pr2 PM h.M h.K1) :
  RelM w0 own gf g { s with b := sb, k0 := sk } { h with B := B, K0 := Ks } a0 a1 a2 0 w o s.m s.k1 h.M h.K1 := by
 obtain ⟨h1, h2, h3⟩ := HR
 exact ⟨Lib.hid ⟨rfl, rfl, hM⟩, h2, Lib.hid ⟨h3.out.1, fun i p _ hp => h3.out.2.2.1 i p hp, h3.out.2.2.2⟩⟩
theorem relMR {w0 w : World} {own o : Nat → Nat} {gf g j : Nat} {a0 a1 a2 : Int} {s : St} {h : Gh} {sb sk : Sl} {B : List (Sl × List MC)} {Ks : List Int} (HR : RelM w0 own gf g s h a0 a1 a2 j w o sb sk B Ks) (hM : Pr2 PQ h.R h.K2) :
  RelR w0 own gf g { s with m := sb, k1 := sk } { h with M := B, K1 := Ks } a0 a1 a2 0 w o s.r s.k2 h.R h.K2 := by
 obtain ⟨h1, h2, h3⟩ := HR
 exact ⟨Lib.hid ⟨rfl, rfl, hM⟩, h2, Lib.hid ⟨h3.out.1, fun i p _ hp => h3.out.2.2 i p hp⟩⟩
def Grown (w : World) (own : Nat → Nat) (g : Nat) (s : St) (h : Gh) (w' : World) : Prop :=
  ∃ o s' B M R K0 K1 K2, WInvG w' g o s' { h with B := B, M := M, R := R, K0 := K0, K1 := K1, K2 := K2 } ∧ Pr2 PB B K0 ∧ Pr2 PM M K1 ∧ Pr2 PQ R K2 ∧ B.length = h.B.length + 4 * h.F.length ∧ M.length = h.M.length + 4 * h.T.length ∧ R.length = h.R.length + 4 * h.A.length ∧ Kp big w own w' o
theorem grown_end {w w' : World} {own o : Nat → Nat} {g gf : Nat} {s : St} {h : Gh} {a0 a1 a2 : Int} {s1 s2 s3 s4 s5 s6 : Sl} {B : List (Sl × List Int)} {M : List (Sl × List MC)} {R : List (Sl × List RC)} {K0 K1 K2 : List Int}
  (hB : Pr2 PB B K0 ∧ B.length = h.B.length + 4 * h.F.length) (hM : Pr2 PM M K1 ∧ M.length = h.M.length + 4 * h.T.length)
  (HR : RelR w own gf g { s with b := s1, k0 := s2, m := s3, k1 := s4 } { h with B := B, K0 := K0, M := M, K1 := K1 } a0 a1 a2 h.A.length w' o s5 s6 R K2) : Grown w own g s h w' := by
 obtain ⟨h1, h2, h3⟩ := HR
 exact ⟨o, _, B, M, R, K0, K1, K2, h3.out.1, hB.1, hM.1, h1.out.2.2, hB.2, hM.2, h1.out.1, h2.out.2.2⟩
set_option maxHeartbeats 4000000 in
set_option maxRecDepth 100000 in
theorem grows_ok (w : World) (g : Nat) (own : Nat → Nat) (s : St) (h : Gh) (a0 a1 a2 : Int) (H : WInvG w g own s h) (h0 : 0 ≤ a0 ∧ a0 ≤ 100000000000000) (h1 : -100000000000000 ≤ a1 ∧ a1 ≤ 0) (h2 : -100000000000000 ≤ a2 ∧ a2 ≤ 0)
  (hLB : Pr2 PB h.B h.K0) (hLM : Pr2 PM h.M h.K1) (hLR : Pr2 PQ h.R h.K2)
  (hF : ∀ (i : Nat) (p : Sl × List Int), h.F[i]? = some p → Fz w own (32 * i + 4) 5 1 (fD (a0 + 4 * (i : Int))) p.1) (hFn : ∀ p ∈ h.F, p.1.n ≤ 1000000000000) (hFl : h.F.length ≤ 1000000000000) (hBl : h.B.length + 4 * h.F.length ≤ 5000000000000)
  (hT : ∀ (i : Nat) (p : Sl × List MC), h.T[i]? = some p → Fz w own (32 * i + 7) 35 5 (fM (a1 - 4 * (i : Int))) p.1) (hTn : ∀ p ∈ h.T, p.1.n ≤ 1000000000000) (hTl : h.T.length ≤ 1000000000000) (hMl : h.M.length + 4 * h.T.length ≤ 5000000000000)
  (hA : ∀ (i : Nat) (p : Sl × List RC), h.A[i]? = some p → Fz w own (32 * i + 10) 44 4 (fR (a2 - 4 * (i : Int))) p.1) (hAn : ∀ p ∈ h.A, p.1.n ≤ 1000000000000) (hAl : h.A.length ≤ 1000000000000) (hRl : h.R.length + 4 * h.A.length ≤ 5000000000000) :
  Calls Try.prog 39 #[pt g, .agg #[.int .i64 a0, .int .i64 a1, .int .i64 a2]] w fun e w' => e = .returned (.tuple #[]) ∧ Grown w own g s h w' := by
 have HI := Lib.hid H
 have HF := Lib.hid hF
 have HFN := Lib.hid hFn
 have HT := Lib.hid hT
 have HTN := Lib.hid hTn
 have HA := Lib.hid hA
 have HAN := Lib.hid hAn
 have HLB := Lib.hid hLB
 have HLM := Lib.hid hLM
 have HLR := Lib.hid hLR
 clear H hF hFn hT hTn hA hAn hLB hLM hLR
 go_enter Try.func39, Try.ntmps39
 go_wp2_with fail
 go_loopw [4, 5, 6, 7, 8, 9, 10, 11] (fun i _l _m _n _o _t _g _k wr => ∃ j : Nat, j ≤ h.F.length ∧ i = .int .i64 (j : Int) ∧ ∃ o sb sk B Ks, RelB w own w.heap.size g s h a0 a1 a2 j wr o sb sk B Ks) (fun i _ _ _ _ _ _ _ _ => h.F.length - (intOf i).toNat)
 case atStart =>
  have hk24 := Kp.below (ts := fun _ => False) (own := own) (Below.alloc (Below.refl w.heap.size w) (Nat.le_refl _) (.cells #[.int .i64 a0, .int .i64 a1, .int .i64 a2] 83)) 24
  exact ⟨0, by omega, rfl, tagged w own 24, s.b, s.k0, h.B, h.K0, Lib.hid ⟨by omega, by omega, HLB.out⟩, Lib.hid ⟨blkNew rfl, tagged_new (Nat.le_refl _), hk24.mono (fun q hq => hq.elim)⟩, Lib.hid ⟨HI.out.keep hk24 (fun q hq => hq.elim), fun i p _ hp => Fz.keep (HF.out i p hp) hk24 (fun hq => hq), fun i p hp => Fz.keep (HT.out i p hp) hk24 (fun hq => hq), fun i p hp => Fz.keep (HA.out i p hp) hk24 (fun hq => hq)⟩⟩
 case round =>
  obtain ⟨j, hj, rfl, o, sb, sk, B, Ks, HR⟩ := hrel
  have hc0 : wr.cell? ⟨w.heap.size, 0, none⟩ = some (.int .i64 a0) := Blk.cell (i := 0) HR.2.1.out.1 rfl
  by_cases hlt : j < h.F.length
  ·
   have dl : decide ((j : Int) < (h.F.length : Int)) = true := by simp; omega
   have hB5 : B.length + 4 ≤ 5000000000000 := by have := HR.1.out.1; omega
   have hK5 : Ks.length + 4 ≤ 5000000000000 := by have := HR.1.out.1; have := HR.1.out.2.2.1; omega
   obtain ⟨p, hp⟩ : ∃ p, h.F[j]? = some p := ⟨h.F[j], List.getElem?_eq_getElem hlt⟩
   obtain ⟨A1, c1, hc1, k1, hl1⟩ := row_at (i := 1) HR.2.2.out.1.blk rfl HR.2.2.out.1.f0
   rw [List.length_map] at hc1 k1 hl1
   obtain ⟨ad, rfl, e1⟩ := sl_at hl1 j hlt p.1 (by rw [List.getElem?_map, hp]; rfl)
   have hpn := HFN.out p (List.mem_of_getElem? hp)
   have HST := Lib.hid (show GSt wr o (32 * j + 4) 5 1 (fD (a0 + 4 * (j : Int))) wr o [p.1] from ⟨Kp.refl _ _ _, fun z hz => by simp at hz; subst hz; exact HR.2.2.out.2.1 j p (Nat.le_refl _) hp⟩)
   clear hp hl1
   generalize p.1 = l at e1 hpn HST
   obtain ⟨lA, ln, lc⟩ := l
   simp only [Sl.enc] at e1
   have hpn' : ln ≤ 1000000000000 := hpn
   clear hpn
   go_wp2_with (first
    | (go_at_call 38; refine Calls.mono (digit_ok (a0 + 4 * (j : Int)) _ _ (by omega)) ?_; rintro e w2 ⟨rfl, hb2⟩; replace HST := Lib.hid (GSt.below HST.out (32 * j + 4) hb2); clear hb2)
    | ((with_reducible refine gate_builtin (b := .append) (xs := #[.tmp 51, .tmp 55]) rfl ?_); at_builtin; refine ga_ (t := 32 * j + 4) (sz := 1) (bytes := 1) (f := fD (a0 + 4 * (j : Int))) (z := ⟨lA, ln, lc⟩) rfl (.tmp 51) (.tmp 55) 22 5 rfl Try.underlying22 info5 rfl (by decide) (by decide) 1 1 (by decide) rfl rfl (Below.alloc (Below.refl _ _) (Nat.le_refl _) _) (HST.out.all _ (by simp)) (fun _ => rfl) (by rw [fD_one]; exact heap_alloc_new _ _) (by show (ln + 1) * 1 ≤ _; omega) ?_; intro v1 w1 hn1 hf1 hf2 hk1; obtain ⟨vA1, vn1, vc1⟩ := v1; have hn1' : vn1 = ln + 1 := hn1; subst hn1'; replace HST := Lib.hid (GSt.push HST.out hf1 hf2 hk1); clear hn1 hf1 hf2 hk1; simp only [Sl.enc])
    | ((with_reducible refine gate_builtin (b := .append) (xs := #[.tmp 57, .tmp 65]) rfl ?_); at_builtin; refine ga_ (t := 32 * j + 4) (sz := 1) (bytes := 1) (f := fD (a0 + 4 * (j : Int))) (z := ⟨lA, ln, lc⟩) rfl (.tmp 57) (.tmp 65) 22 5 rfl Try.underlying22 info5 rfl (by decide) (by decide) 2 2 (by decide) rfl rfl (Below.alloc (Below.refl _ _) (Nat.le_refl _) _) (HST.out.all _ (by simp)) (fun _ => rfl) (by rw [fD_two]; exact heap_alloc_new _ _) (by show (ln + 2) * 1 ≤ _; omega) ?_; intro v2 w1 hn1 hf1 hf2 hk1; obtain ⟨vA2, vn2, vc2⟩ := v2; have hn2' : vn2 = ln + 2 := hn1; subst hn2'; replace HST := Lib.hid (GSt.push HST.out hf1 hf2 hk1); clear hn1 hf1 hf2 hk1; simp only [Sl.enc]))
   clear k1 e1 hc0
   go_loopw [10, 11] (fun gv k wq => ∃ (q : Nat) (O : Nat → Nat) (zA : Option Addr) (zc : Nat), q ≤ 60 ∧ k = .int .i64 (q : Int) ∧ gv = .slice zA (ln + q) zc ∧ Hid (GSt wr o (32 * j + 4) 5 1 (fD (a0 + 4 * (j : Int))) wq O [⟨zA, ln + q, zc⟩, ⟨vA2, ln + 2, vc2⟩, ⟨vA1, ln + 1, vc1⟩, ⟨lA, ln, lc⟩])) (fun _ k _ => 60 - (intOf k).toNat)
   case atStart => exact ⟨0, _, lA, lc, by omega, rfl, rfl, Lib.hid ⟨HST.out.kp, fun z hz => HST.out.all z (by simp at hz ⊢; rcases hz with h | h | h | h <;> simp [h])⟩⟩
   case round =>
    clear HST
    obtain ⟨q, O, zA, zc, hq, rfl, rfl, HST⟩ := hrel
    by_cases hq2 : q < 60
    ·
     have dq : decide ((q : Int) < 60) = true := by simp; omega
     go_wp2_with (first
      | (go_at_call 38; refine Calls.mono (digit_ok (a0 + 4 * (j : Int)) _ _ (by omega)) ?_; rintro e w2 ⟨rfl, hb2⟩; replace HST := Lib.hid (GSt.below HST.out (32 * j + 4) hb2); clear hb2)
      | ((with_reducible refine gate_builtin (b := .append) (xs := #[.tmp 72, .tmp 78]) rfl ?_); at_builtin; refine ga_ (t := 32 * j + 4) (sz := 1) (bytes := 1) (f := fD (a0 + 4 * (j : Int))) (z := ⟨zA, ln + q, zc⟩) rfl (.tmp 72) (.tmp 78) 22 5 rfl Try.underlying22 info5 rfl (by decide) (by decide) 1 1 (by decide) rfl rfl (Below.alloc (Below.refl _ _) (Nat.le_refl _) _) (HST.out.all _ (by simp)) (fun _ => rfl) (by rw [fD_one]; exact heap_alloc_new _ _) (by show (ln + q + 1) * 1 ≤ _; omega) ?_; intro v1 w1 hn1 hf1 hf2 hk1; obtain ⟨vA, vn, vc⟩ := v1; have hn1' : vn = ln + q + 1 := hn1; subst hn1'; replace HST := Lib.hid (GSt.push HST.out hf1 hf2 hk1); clear hn1 hf1 hf2 hk1; simp only [Sl.enc]))
     exact ⟨⟨q + 1, _, vA, vc, by omega, by go_num, rfl, Lib.hid ⟨HST.out.kp, fun z hz => HST.out.all z (by simp only [List.mem_cons, List.not_mem_nil, or_false] at hz ⊢; rcases hz with hh | hh | hh | hh; exact .inl hh; exact .inr (.inr (.inl hh)); exact .inr (.inr (.inr (.inl hh))); exact .inr (.inr (.inr (.inr hh))))⟩⟩, by simp [intOf]; omega⟩
    ·
     obtain rfl : q = 60 := by omega
     have dq : decide (((60 : Nat) : Int) < 60) = false := by decide
     obtain ⟨A7, c7, hc7, k7, hl7⟩ := row_ow (i := 7) HR.2.2.out.1.blk rfl HR.2.2.out.1.b.1
     rw [List.length_map] at hc7 k7 hl7
     have HR7 := Lib.hid (Ow.keep hl7 HST.out.kp (by (intro hq; first | omega | (dsimp only at hq; omega) | (dsimp only at hq; done))))
     have hb7 := Blk.keep HR.2.2.out.1.blk HST.out.kp (by rw [HR.2.2.out.1.og]; (intro hq; first | omega | (dsimp only at hq; omega) | (dsimp only at hq; done)))
     have HB7 := Lib.hid hb7.1
     have HG7 := Lib.hid (hb7.2.trans HR.2.2.out.1.og)
     have k7' : wr.cell? ⟨g, 7, none⟩ = some (.slice A7 B.length c7) := (Blk.cell (i := 7) hb7.1 rfl).trans ((Blk.cell (i := 7) HR.2.2.out.1.blk rfl).symm.trans k7)
     clear hl7 hb7 k7
     go_wp2_with (
      ((with_reducible refine gate_builtin (b := .append) (xs := #[.tmp 84, .tmp 89]) rfl ?_); at_builtin; refine Kd.R_append_rows slK (Rr := slK.K _) (w0 := wr) 0 rfl (.tmp 84) (.tmp 89) 53 22 (.slice none 0 0) 24 rfl Try.underlying53 info22 rfl (by decide) (by decide) (.slice A7 B.length c7) (B.map (·.1)) [⟨lA, ln, lc⟩, ⟨vA1, ln + 1, vc1⟩, ⟨vA2, ln + 2, vc2⟩, ⟨zA, ln + 60, zc⟩] (some ⟨wr.heap.size, 0, none⟩) 4 4 (fun k => tagged wr O 12 k = 12) (fun _ => False) rfl rfl (Ow.alloc HR7.out (Below.alloc (Below.refl _ _) (Nat.le_refl _) _)) (lit_rows (heap_alloc_new _ _) (by simp)) (fun _ _ hh => hh) (fun _ hk => hk.elim) (fun q hq => tagged_new (by simp at hq; omega)) (Below.alloc (Below.refl 0 _) (Nat.zero_le _) _) (Nat.zero_le _) ?hl ?_; (case hl => simp; omega); intro v7 w7 ho hb hg hat; obtain ⟨s7, rfl, ho', hk'⟩ := Ow.pushed HR7.out (Below.alloc (Below.refl _ _) (Nat.le_refl _) _) ho hg; have hbb := Blk.keep HB7.out hk' (by rw [HG7.out]; decide); have HB8 := Lib.hid hbb.1; have HG8 := Lib.hid (hbb.2.trans HG7.out); have c8 := Blk.cell (i := 7) hbb.1 rfl; have z8 := Blk.frozen (i := 7) hbb.1; have l8 := Blk.lt hbb.1; have HO8 := Lib.hid ho'; have HK8 := Lib.hid hk'; clear ho hb hg hat ho' hk' hbb; simp only [Sl.enc]))
     obtain ⟨hb', hk', ho'⟩ := push_end 7 HB8.out HK8.out HO8.out HG7.out (by decide)
     have HBS := Lib.hid hb'
     have HKS := Lib.hid hk'
     have HOS := Lib.hid ho'
     clear hb' hk' ho' HB8 HK8 HO8 c8 z8 l8 k7'
     obtain ⟨A10, c10, hc10, k10, hl10⟩ := row_ow (i := 10) HR.2.2.out.1.blk rfl HR.2.2.out.1.k0
     have HR10 := Lib.hid (Ow.keep (Ow.keep hl10 HST.out.kp (by (intro hq; first | omega | (dsimp only at hq; omega) | (dsimp only at hq; done)))) HKS.out (by (intro hq; first | omega | (dsimp only at hq; omega) | (dsimp only at hq; done))))
     have k10' : (w7.setCell ⟨g, 7, none⟩ s7.enc).cell? ⟨g, 10, none⟩ = some (.slice A10 Ks.length c10) := (Blk.cell (i := 10) HBS.out rfl).trans ((Blk.cell (i := 10) HR.2.2.out.1.blk rfl).symm.trans k10)
     clear hl10 k10
     simp only [show Value.slice s7.A s7.n s7.c = s7.enc from rfl]
     generalize w7.setCell ⟨g, 7, none⟩ s7.enc = W7 at HBS HKS HOS HR10 k10' ⊢
     refine start_ (n := 16) (S := fun w' => w'.cell? ⟨g, 10, none⟩ = some (.slice A10 Ks.length c10)) (ds := [11, 15]) #[false, false, false, false, false, false, false, false, false, false, false, false, false, false, false, false] (by kernel_rfl) rfl rfl k10' (fun hHeld => ?_)
     refine pu_ (i := 0) (N := some 93) (v := ?_) (a' := ?_) rfl rfl (by kernel_rfl) (fun _ _ _ h => h) (by rfl) ?_ ?_ ?_
     rotate_left
     · (intro w'; go_simp; with_reducible rfl)
     rotate_left
     · (simp only [put_s, List.set, i64_w, i32_w]; rfl)
     refine pu_ (i := 1) (N := some 94) (v := ?_) (a' := ?_) rfl rfl (by kernel_rfl) (fun _ _ _ h => h) (by rfl) ?_ ?_ ?_
     rotate_left
     · (intro w'; go_simp; with_reducible rfl)
     rotate_left
     · (simp only [put_s, List.set, i64_w, i32_w]; rfl)
     refine pu_ (i := 2) (N := some 95) (v := ?_) (a' := ?_) rfl rfl (by kernel_rfl) (fun _ _ _ h => h) (by rfl) ?_ ?_ ?_
     rotate_left
     · (intro w'; go_simp; with_reducible rfl)
     rotate_left
     · (simp only [put_s, List.set, i64_w, i32_w]; rfl)
     refine pu_ (i := 3) (N := some 96) (v := ?_) (a' := ?_) rfl rfl (by kernel_rfl) (fun _ _ _ h => h) (by rfl) ?_ ?_ ?_
     rotate_left
     · (intro w'; go_simp; with_reducible rfl)
     rotate_left
     · (simp only [put_s, List.set, i64_w, i32_w]; rfl)
     refine pu_ (i := 4) (N := some 97) (v := ?_) (a' := ?_) rfl rfl (by kernel_rfl) (fun _ _ _ h => h) (by rfl) ?_ ?_ ?_
     rotate_left
     · (intro w'; go_simp; with_reducible rfl)
     rotate_left
     · (simp only [put_s, List.set, i64_w, i32_w]; rfl)
     refine tk_ (i := 5) (N := some 98) (v := ?_) (a' := ?_) rfl rfl (by kernel_rfl) (fun _ _ _ h => h) (by rfl) ?_ hHeld ?_ ?_
     rotate_left
     · (intro w' s0; go_simp; with_reducible rfl)
     rotate_left
     · (simp only [put_s, List.set, i64_w, i32_w]; rfl)
     refine pu_ (i := 6) (N := some 99) (v := ?_) (a' := ?_) rfl rfl (by kernel_rfl) (fun _ _ _ h => h) (by rfl) ?_ ?_ ?_
     rotate_left
     · (intro w'; go_simp; with_reducible rfl)
     rotate_left
     · (simp only [put_s, List.set, i64_w, i32_w]; rfl)
     refine pu_ (i := 7) (N := some 100) (v := ?_) (a' := ?_) rfl rfl (by kernel_rfl) (fun _ _ _ h => h) (by rfl) ?_ ?_ ?_
     rotate_left
     · (intro w'; go_simp; with_reducible rfl)
     rotate_left
     · (simp only [put_s, List.set, i64_w, i32_w]; rfl)
     refine pu_ (i := 8) (N := some 101) (v := ?_) (a' := ?_) rfl rfl (by kernel_rfl) (fun _ _ _ h => h) (by rfl) ?_ ?_ ?_
     rotate_left
     · (intro w'; go_simp; with_reducible rfl)
     rotate_left
     · (simp only [put_s, List.set, i64_w, i32_w]; rfl)
     refine pu_ (i := 9) (N := some 102) (v := ?_) (a' := ?_) rfl rfl (by kernel_rfl) (fun _ _ _ h => h) (by rfl) ?_ ?_ ?_
     rotate_left
     · (intro w'; go_simp; with_reducible rfl)
     rotate_left
     · (simp only [put_s, List.set, i64_w, i32_w]; rfl)
     refine pu_ (i := 12) (N := some 105) (v := ?_) (a' := ?_) rfl rfl (by kernel_rfl) (fun _ _ _ h => h) (by rfl) ?_ ?_ ?_
     rotate_left
     · (intro w'; go_simp; with_reducible rfl)
     rotate_left
     · (simp only [put_s, List.set, i64_w, i32_w]; rfl)
     refine pu_ (i := 13) (N := some 106) (v := ?_) (a' := ?_) rfl rfl (by kernel_rfl) (fun _ _ _ h => h) (by rfl) ?_ ?_ ?_
     rotate_left
     · (intro w'; go_simp; with_reducible rfl)
     rotate_left
     · (simp only [put_s, List.set, i64_w, i32_w]; rfl)
     refine on_ (i := 10) (N := some 103) rfl rfl (by kernel_rfl) (by decide) (fun K hK => ?_)
     refine value_ (v := .slice (some ⟨(W7).drew.heap.size, 0, none⟩) 4 4) (w1 := (W7).drew.alloc (.cells #[.int .i64 (a0 + 4 * (j : Int)), .int .i64 (a0 + 4 * (j : Int)), .int .i64 (a0 + 4 * (j : Int)), .int .i64 (a0 + 4 * (j : Int))] 3)) (by rfl) rfl (by go_simp) ?_
     refine hK.out _ _ ((World.cell?_alloc_lt _ _ _ (World.block_lt_of_cell? _ _ hHeld)).trans hHeld) (fun hHeld => ?_)
     clear hK K
     refine norm_ (a' := ?_) ?_ ?_
     rotate_left
     ·
      show Act.put _ (some 103) _ = _
      simp only [put_s, List.set, i64_w, i32_w]
      rfl
     refine la_ (i := 11) (N := some 104) rfl rfl (by kernel_rfl) (by decide) (fun K hK => ?_)
     refine Kd.R_append_rows_step i64K (Rr := i64K.K _) (w0 := W7) 0 (by rfl) (.tmp 98) (.tmp 103) 23 3 (.int .i64 0) 8 rfl Try.underlying23 info3 rfl (by decide) (by decide) (.slice A10 Ks.length c10) Ks [(a0 + 4 * (j : Int)), (a0 + 4 * (j : Int)), (a0 + 4 * (j : Int)), (a0 + 4 * (j : Int))] (some ⟨(W7).drew.heap.size, 0, none⟩) 4 4 (fun k => tagged W7 (tagged wr O 12) 15 k = 15) (fun _ => False) rfl rfl (Ow.alloc HR10.out (Below.alloc (Below.drew (Below.refl _ _)) (Nat.le_refl _) _)) (lit_rows (heap_alloc_new _ _) (by simp)) (fun _ _ hh => hh) (fun _ hk => hk.elim) (fun q hq => tagged_new (by have hz : (W7).heap.size + 1 ≤ q := (by simpa using hq); omega)) (Below.alloc (Below.drew (Below.refl 0 _)) (Nat.zero_le _) _) (Nat.zero_le _) (by omega) ?_
     intro v9 w9 ho hb hg hat
     obtain ⟨s9, rfl, ho', hk'⟩ := Ow.pushed HR10.out (Below.alloc (Below.drew (Below.refl _ _)) (Nat.le_refl _) _) ho hg
     clear ho hb hg hat
     have hbb := Blk.keep HBS.out hk' (by rw [HG8.out]; decide)
     have HBK9 := Lib.hid hbb.1
     have HG9 := Lib.hid (hbb.2.trans HG8.out)
     have HG09 := Lib.hid HG8.out
     have HO9 := Lib.hid ho'
     have HK9 := Lib.hid hk'
     have c9 := Blk.cell (i := 10) hbb.1 rfl
     have z9 := Blk.frozen (i := 10) hbb.1
     clear ho' hk' hbb
     refine hK.out _ _ ?_
     clear hK K
     refine norm_ (a' := ?_) ?_ ?_
     rotate_left
     ·
      show Act.put _ (some 104) _ = _
      simp only [put_s, List.set, i64_w, i32_w]
      rfl
     refine pu_ (i := 14) (N := some 107) (v := ?_) (a' := ?_) rfl rfl (by kernel_rfl) (fun _ _ _ h => h) (by rfl) ?_ ?_ ?_
     rotate_left
     · (intro w'; go_simp; with_reducible rfl)
     rotate_left
     · (simp only [put_s, List.set, i64_w, i32_w]; rfl)
     refine la_ (i := 15) (N := none) rfl rfl (by kernel_rfl) (by decide) (fun K hK => ?_)
     refine skip_ (w1 := w9.setCell ⟨g, 10, none⟩ s9.enc) (by rfl) rfl (by simp only [Sl.enc]; go_simp) ?_
     refine hK.out _ _ ?_
     clear hK K
     refine done_ (by kernel_rfl) ?_
     clear c9 z9
     obtain ⟨hb', hk', ho'⟩ := push_end 10 HBK9.out HK9.out HO9.out HG09.out (by decide)
     have HBS9 := Lib.hid hb'
     have HKS9 := Lib.hid hk'
     have HOS9 := Lib.hid ho'
     have HGS9 := Lib.hid HG9.out
     clear hb' hk' ho' HBK9 HK9 HO9 HG9 HG09
     generalize w9.setCell ⟨g, 10, none⟩ s9.enc = W9 at *
     go_wp2_with fail
     have HE := growB_end HR (z1 := ⟨lA, ln, lc⟩) (z2 := ⟨vA1, ln + 1, vc1⟩) (z3 := ⟨vA2, ln + 2, vc2⟩) (z4 := ⟨zA, ln + 60, zc⟩) (fun z hz => HST.out.all z (by simp only [List.mem_cons, List.not_mem_nil, or_false] at hz ⊢; rcases hz with hh | hh | hh | hh; exact .inr (.inr (.inr hh)); exact .inr (.inr (.inl hh)); exact .inr (.inl hh); exact .inl hh)) (fun z hz => by simp only [List.mem_cons, List.not_mem_nil, or_false] at hz; rcases hz with rfl | rfl | rfl | rfl <;> (dsimp only; omega)) HST.out.kp HKS.out HOS.out HKS9.out HOS9.out HBS9.out HGS9.out
     exact ⟨⟨j + 1, by omega, by go_num, _, _, _, _, _, HE⟩, by simp [intOf]; omega⟩
  ·
   obtain rfl : j = h.F.length := by omega
   have dl : decide (((h.F.length : Nat) : Int) < ((h.F.length : Nat) : Int)) = false := by simp
   obtain ⟨A1, c1, hc1, k1, hl1⟩ := row_at (i := 1) HR.2.2.out.1.blk rfl HR.2.2.out.1.f0
   rw [List.length_map] at hc1 k1 hl1
   clear hl1
   go_wp2_with fail
   clear k1 hc0 dl
   have HRB := HR
   clear HR
   go_loopw [12, 13, 14, 15, 16, 17, 18] (fun i _l _m _x _o _t _h wr => ∃ j : Nat, j ≤ h.T.length ∧ i = .int .i64 (j : Int) ∧ ∃ o9 sb9 sk9 B9 Ks9, RelM w own w.heap.size g { s with b := sb, k0 := sk } { h with B := B, K0 := Ks } a0 a1 a2 j wr o9 sb9 sk9 B9 Ks9) (fun i _ _ _ _ _ _ _ => h.T.length - (intOf i).toNat)
   case atStart => exact ⟨0, by omega, rfl, _, _, _, _, _, relBM HRB HLM.out⟩
   case round =>
    obtain ⟨j, hj, rfl, o, sb1, sk1, B1, Ks1, HR⟩ := hrel
    have hc0 : wr.cell? ⟨w.heap.size, 1, none⟩ = some (.int .i64 a1) := Blk.cell (i := 1) HR.2.1.out.1 rfl
    by_cases hlt : j < h.T.length
    ·
     have dl : decide ((j : Int) < (h.T.length : Int)) = true := by simp; omega
     have hB5 : B1.length + 4 ≤ 5000000000000 := by have h9 := HR.1.out.1; dsimp only at h9; omega
     have hK5 : Ks1.length + 4 ≤ 5000000000000 := by have h9 := HR.1.out.1; have h8 := HR.1.out.2.2.1; dsimp only at h9; omega
     obtain ⟨p, hp⟩ : ∃ p, h.T[j]? = some p := ⟨h.T[j], List.getElem?_eq_getElem hlt⟩
     obtain ⟨A1, c1, hc1, k1, hl1⟩ := row_at (i := 3) HR.2.2.out.1.blk rfl HR.2.2.out.1.t0
     rw [List.length_map] at hc1 k1 hl1
     dsimp only at hc1 k1 hl1
     obtain ⟨ad, rfl, e1⟩ := sl_at hl1 j hlt p.1 (by rw [List.getElem?_map, hp]; rfl)
     have hpn := HTN.out p (List.mem_of_getElem? hp)
     have HST := Lib.hid (show GSt wr o (32 * j + 7) 35 5 (fM (a1 - 4 * (j : Int))) wr o [p.1] from ⟨Kp.refl _ _ _, fun z hz => by simp at hz; subst hz; exact HR.2.2.out.2.1 j p (Nat.le_refl _) hp⟩)
     clear hp hl1
     generalize p.1 = l at e1 hpn HST
     obtain ⟨lA, ln, lc⟩ := l
     simp only [Sl.enc] at e1
     have hpn' : ln ≤ 1000000000000 := hpn
     clear hpn
     go_upto_region 22 with (fail)
     clear k1 e1 hc0
     obtain ⟨m, hm⟩ : ∃ m : Int, m = a1 - 4 * (j : Int) := ⟨_, rfl⟩
     rw [← hm] at HST
     simp only [← hm]
     have HM := Lib.hid hm
     clear hm
     have HX := Lib.hid (show Blk (wr.alloc (.cells #[.int .i64 m, .int .i64 0, .string ⟨#[]⟩, .int .i64 m, .slice none 0 0] 35)) wr.heap.size #[.int .i64 m, .int .i64 0, .string ⟨#[]⟩, .int .i64 m, .slice none 0 0] 35 ∧ tagged wr o 25 wr.heap.size = 25 from ⟨blkNew rfl, tagged_new (Nat.le_refl _)⟩)
     replace HST := Lib.hid (GSt.below HST.out 25 (Below.alloc (Below.refl _ _) (Nat.le_refl _) (.cells #[.int .i64 m, .int .i64 0, .string ⟨#[]⟩, .int .i64 m, .slice none 0 0] 35)))
     obtain ⟨gx, hgx⟩ : ∃ gx, gx = wr.heap.size := ⟨_, rfl⟩
     have HGX := Lib.hid hgx
     simp only [← hgx] at HX ⊢
     clear hgx
     generalize wr.alloc (.cells #[.int .i64 m, .int .i64 0, .string ⟨#[]⟩, .int .i64 m, .slice none 0 0] 35) = W1 at HX HST ⊢
     generalize tagged wr o 25 = o1 at HX HST
     have x0 := Blk.cell (i := 0) HX.out.1 rfl
     have x1 := Blk.cell (i := 1) HX.out.1 rfl
     have x2 := Blk.cell (i := 2) HX.out.1 rfl
     have x3 := Blk.cell (i := 3) HX.out.1 rfl
     have x4 := Blk.cell (i := 4) HX.out.1 rfl
     go_upto_region 25 with (first
      | ((with_reducible refine gate_builtin (b := .append) (xs := #[.tmp 134, .tmp 136]) rfl ?_); at_builtin; refine ga_ (t := 32 * j + 7) (sz := 5) (bytes := 64) (f := fM m) (z := ⟨lA, ln, lc⟩) rfl (.tmp 134) (.tmp 136) 27 35 rfl Try.underlying27 info35 rfl (by decide) (by decide) 1 1 (by decide) rfl rfl (Below.alloc (Below.refl _ _) (Nat.le_refl _) _) (HST.out.all _ (by simp)) (fM_oneC m) (by rw [fM_1]; exact heap_alloc_new _ _) (by show (ln + 1) * 64 ≤ _; omega) ?_; intro v1 w1 hn1 hf1 hf2 hk1; obtain ⟨vA1, vn1, vc1⟩ := v1; have hn1' : vn1 = ln + 1 := hn1; subst hn1'; replace HX := Lib.hid (show _ ∧ _ from ⟨(Blk.keep HX.out.1 hk1 (by rw [HX.out.2]; (intro hq; first | omega | (dsimp only at hq; omega) | (dsimp only at hq; done)))).1, (Blk.keep HX.out.1 hk1 (by rw [HX.out.2]; (intro hq; first | omega | (dsimp only at hq; omega) | (dsimp only at hq; done)))).2.trans HX.out.2⟩); replace HST := Lib.hid (GSt.push HST.out hf1 hf2 hk1); clear hn1 hf1 hf2 hk1; clear x0 x1 x2 x3 x4; have x0 := Blk.cell (i := 0) HX.out.1 rfl; have x1 := Blk.cell (i := 1) HX.out.1 rfl; have x2 := Blk.cell (i := 2) HX.out.1 rfl; have x3 := Blk.cell (i := 3) HX.out.1 rfl; have x4 := Blk.cell (i := 4) HX.out.1 rfl; simp only [Sl.enc])
      | ((with_reducible refine gate_builtin (b := .append) (xs := #[.tmp 138, .tmp 141]) rfl ?_); at_builtin; refine ga_ (t := 32 * j + 7) (sz := 5) (bytes := 64) (f := fM m) (z := ⟨lA, ln, lc⟩) rfl (.tmp 138) (.tmp 141) 27 35 rfl Try.underlying27 info35 rfl (by decide) (by decide) 2 2 (by decide) rfl rfl (Below.alloc (Below.refl _ _) (Nat.le_refl _) _) (HST.out.all _ (by simp)) (fM_oneC m) (by rw [fM_2]; exact heap_alloc_new _ _) (by show (ln + 2) * 64 ≤ _; omega) ?_; intro v2 w2 hn1 hf1 hf2 hk1; obtain ⟨vA2, vn2, vc2⟩ := v2; have hn1' : vn2 = ln + 2 := hn1; subst hn1'; replace HX := Lib.hid (show _ ∧ _ from ⟨(Blk.keep HX.out.1 hk1 (by rw [HX.out.2]; (intro hq; first | omega | (dsimp only at hq; omega) | (dsimp only at hq; done)))).1, (Blk.keep HX.out.1 hk1 (by rw [HX.out.2]; (intro hq; first | omega | (dsimp only at hq; omega) | (dsimp only at hq; done)))).2.trans HX.out.2⟩); replace HST := Lib.hid (GSt.push HST.out hf1 hf2 hk1); clear hn1 hf1 hf2 hk1; clear x0 x1 x2 x3 x4; have x0 := Blk.cell (i := 0) HX.out.1 rfl; have x1 := Blk.cell (i := 1) HX.out.1 rfl; have x2 := Blk.cell (i := 2) HX.out.1 rfl; have x3 := Blk.cell (i := 3) HX.out.1 rfl; have x4 := Blk.cell (i := 4) HX.out.1 rfl; simp only [Sl.enc])
      | ((with_reducible refine gate_builtin (b := .append) (xs := #[.tmp 143, .tmp 147]) rfl ?_); at_builtin; refine ga_ (t := 32 * j + 7) (sz := 5) (bytes := 64) (f := fM m) (z := ⟨lA, ln, lc⟩) rfl (.tmp 143) (.tmp 147) 27 35 rfl Try.underlying27 info35 rfl (by decide) (by decide) 3 3 (by decide) rfl rfl (Below.alloc (Below.refl _ _) (Nat.le_refl _) _) (HST.out.all _ (by simp)) (fM_oneC m) (by rw [fM_3]; exact heap_alloc_new _ _) (by show (ln + 3) * 64 ≤ _; omega) ?_; intro v3 w3 hn1 hf1 hf2 hk1; obtain ⟨vA3, vn3, vc3⟩ := v3; have hn1' : vn3 = ln + 3 := hn1; subst hn1'; replace HX := Lib.hid (show _ ∧ _ from ⟨(Blk.keep HX.out.1 hk1 (by rw [HX.out.2]; (intro hq; first | omega | (dsimp only at hq; omega) | (dsimp only at hq; done)))).1, (Blk.keep HX.out.1 hk1 (by rw [HX.out.2]; (intro hq; first | omega | (dsimp only at hq; omega) | (dsimp only at hq; done)))).2.trans HX.out.2⟩); replace HST := Lib.hid (GSt.push HST.out hf1 hf2 hk1); clear hn1 hf1 hf2 hk1; clear x0 x1 x2 x3 x4; have x0 := Blk.cell (i := 0) HX.out.1 rfl; have x1 := Blk.cell (i := 1) HX.out.1 rfl; have x2 := Blk.cell (i := 2) HX.out.1 rfl; have x3 := Blk.cell (i := 3) HX.out.1 rfl; have x4 := Blk.cell (i := 4) HX.out.1 rfl; simp only [Sl.enc]))
     clear x0 x1 x2 x3 x4
     obtain ⟨wq, rfl⟩ : ∃ wq, wq = w3 := ⟨_, rfl⟩
     obtain ⟨O, HST⟩ : ∃ O, Hid (GSt wr o (32 * j + 7) 35 5 (fM m) wq O [⟨vA3, ln + 3, vc3⟩, ⟨vA2, ln + 2, vc2⟩, ⟨vA1, ln + 1, vc1⟩, ⟨lA, ln, lc⟩]) := ⟨_, HST⟩
     clear HX HGX
     obtain ⟨A7, c7, hc7, k7, hl7⟩ := row_ow (i := 8) HR.2.2.out.1.blk rfl HR.2.2.out.1.m.1
     rw [List.length_map] at hc7 k7 hl7
     have HR7 := Lib.hid (Ow.keep hl7 HST.out.kp (by (intro hq; first | omega | (dsimp only at hq; omega) | (dsimp only at hq; done))))
     have hb7 := Blk.keep HR.2.2.out.1.blk HST.out.kp (by rw [HR.2.2.out.1.og]; (intro hq; first | omega | (dsimp only at hq; omega) | (dsimp only at hq; done)))
     have HB7 := Lib.hid hb7.1
     have HG7 := Lib.hid (hb7.2.trans HR.2.2.out.1.og)
     have k7' : wq.cell? ⟨g, 8, none⟩ = some (.slice A7 B1.length c7) := (Blk.cell (i := 8) hb7.1 rfl).trans ((Blk.cell (i := 8) HR.2.2.out.1.blk rfl).symm.trans k7)
     clear hl7 hb7 k7
     go_wp2_with (
      ((with_reducible refine gate_builtin (b := .append) (xs := #[.tmp 153, .tmp 158]) rfl ?_); at_builtin; refine Kd.R_append_rows slK (Rr := slK.K _) (w0 := wq) 0 rfl (.tmp 153) (.tmp 158) 55 27 (.slice none 0 0) 24 rfl Try.underlying55 info27 rfl (by decide) (by decide) (.slice A7 B1.length c7) (B1.map (·.1)) [⟨lA, ln, lc⟩, ⟨vA1, ln + 1, vc1⟩, ⟨vA2, ln + 2, vc2⟩, ⟨vA3, ln + 3, vc3⟩] (some ⟨wq.heap.size, 0, none⟩) 4 4 (fun k => tagged wq O 13 k = 13) (fun _ => False) rfl rfl (Ow.alloc HR7.out (Below.alloc (Below.refl _ _) (Nat.le_refl _) _)) (lit_rows (heap_alloc_new _ _) (by simp)) (fun _ _ hh => hh) (fun _ hk => hk.elim) (fun q hq => tagged_new (by simp at hq; omega)) (Below.alloc (Below.refl 0 _) (Nat.zero_le _) _) (Nat.zero_le _) ?hl ?_; (case hl => simp; omega); intro v7 w7 ho hb hg hat; obtain ⟨s7, rfl, ho', hk'⟩ := Ow.pushed HR7.out (Below.alloc (Below.refl _ _) (Nat.le_refl _) _) ho hg; have hbb := Blk.keep HB7.out hk' (by rw [HG7.out]; decide); have HB8 := Lib.hid hbb.1; have HG8 := Lib.hid (hbb.2.trans HG7.out); have c8 := Blk.cell (i := 8) hbb.1 rfl; have z8 := Blk.frozen (i := 8) hbb.1; have l8 := Blk.lt hbb.1; have HO8 := Lib.hid ho'; have HK8 := Lib.hid hk'; clear ho hb hg hat ho' hk' hbb; simp only [Sl.enc]))
     obtain ⟨hb', hk', ho'⟩ := push_end 8 HB8.out HK8.out HO8.out HG7.out (by decide)
     have HBS := Lib.hid hb'
     have HKS := Lib.hid hk'
     have HOS := Lib.hid ho'
     clear hb' hk' ho' HB8 HK8 HO8 c8 z8 l8 k7'
     obtain ⟨A10, c10, hc10, k10, hl10⟩ := row_ow (i := 11) HR.2.2.out.1.blk rfl HR.2.2.out.1.k1
     have HR10 := Lib.hid (Ow.keep (Ow.keep hl10 HST.out.kp (by (intro hq; first | omega | (dsimp only at hq; omega) | (dsimp only at hq; done)))) HKS.out (by (intro hq; first | omega | (dsimp only at hq; omega) | (dsimp only at hq; done))))
     have k10' : (w7.setCell ⟨g, 8, none⟩ s7.enc).cell? ⟨g, 11, none⟩ = some (.slice A10 Ks1.length c10) := (Blk.cell (i := 11) HBS.out rfl).trans ((Blk.cell (i := 11) HR.2.2.out.1.blk rfl).symm.trans k10)
     clear hl10 k10
     simp only [show Value.slice s7.A s7.n s7.c = s7.enc from rfl]
     generalize w7.setCell ⟨g, 8, none⟩ s7.enc = W7 at HBS HKS HOS HR10 k10' ⊢
     refine start_ (n := 16) (S := fun w' => w'.cell? ⟨g, 11, none⟩ = some (.slice A10 Ks1.length c10)) (ds := [11, 15]) #[false, false, false, false, false, false, false, false, false, false, false, false, false, false, false, false] (by kernel_rfl) rfl rfl k10' (fun hHeld => ?_)
     refine pu_ (i := 0) (N := some 162) (v := ?_) (a' := ?_) rfl rfl (by kernel_rfl) (fun _ _ _ h => h) (by rfl) ?_ ?_ ?_
     rotate_left
     · (intro w'; go_simp; with_reducible rfl)
     rotate_left
     · (simp only [put_s, List.set, i64_w, i32_w]; rfl)
     refine pu_ (i := 1) (N := some 163) (v := ?_) (a' := ?_) rfl rfl (by kernel_rfl) (fun _ _ _ h => h) (by rfl) ?_ ?_ ?_
     rotate_left
     · (intro w'; go_simp; with_reducible rfl)
     rotate_left
     · (simp only [put_s, List.set, i64_w, i32_w]; rfl)
     refine pu_ (i := 2) (N := some 164) (v := ?_) (a' := ?_) rfl rfl (by kernel_rfl) (fun _ _ _ h => h) (by rfl) ?_ ?_ ?_
     rotate_left
     · (intro w'; go_simp; with_reducible rfl)
     rotate_left
     · (simp only [put_s, List.set, i64_w, i32_w]; rfl)
     refine pu_ (i := 3) (N := some 165) (v := ?_) (a' := ?_) rfl rfl (by kernel_rfl) (fun _ _ _ h => h) (by rfl) ?_ ?_ ?_
     rotate_left
     · (intro w'; go_simp; with_reducible rfl)
     rotate_left
     · (simp only [put_s, List.set, i64_w, i32_w]; rfl)
     refine pu_ (i := 4) (N := some 166) (v := ?_) (a' := ?_) rfl rfl (by kernel_rfl) (fun _ _ _ h => h) (by rfl) ?_ ?_ ?_
     rotate_left
     · (intro w'; go_simp; with_reducible rfl)
     rotate_left
     · (simp only [put_s, List.set, i64_w, i32_w]; rfl)
     refine tk_ (i := 5) (N := some 167) (v := ?_) (a' := ?_) rfl rfl (by kernel_rfl) (fun _ _ _ h => h) (by rfl) ?_ hHeld ?_ ?_
     rotate_left
     · (intro w' s0; go_simp; with_reducible rfl)
     rotate_left
     · (simp only [put_s, List.set, i64_w, i32_w]; rfl)
     refine pu_ (i := 6) (N := some 168) (v := ?_) (a' := ?_) rfl rfl (by kernel_rfl) (fun _ _ _ h => h) (by rfl) ?_ ?_ ?_
     rotate_left
     · (intro w'; go_simp; with_reducible rfl)
     rotate_left
     · (simp only [put_s, List.set, i64_w, i32_w]; rfl)
     refine pu_ (i := 7) (N := some 169) (v := ?_) (a' := ?_) rfl rfl (by kernel_rfl) (fun _ _ _ h => h) (by rfl) ?_ ?_ ?_
     rotate_left
     · (intro w'; go_simp; with_reducible rfl)
     rotate_left
     · (simp only [put_s, List.set, i64_w, i32_w]; rfl)
     refine pu_ (i := 8) (N := some 170) (v := ?_) (a' := ?_) rfl rfl (by kernel_rfl) (fun _ _ _ h => h) (by rfl) ?_ ?_ ?_
     rotate_left
     · (intro w'; go_simp; with_reducible rfl)
     rotate_left
     · (simp only [put_s, List.set, i64_w, i32_w]; rfl)
     refine pu_ (i := 9) (N := some 171) (v := ?_) (a' := ?_) rfl rfl (by kernel_rfl) (fun _ _ _ h => h) (by rfl) ?_ ?_ ?_
     rotate_left
     · (intro w'; go_simp; with_reducible rfl)
     rotate_left
     · (simp only [put_s, List.set, i64_w, i32_w]; rfl)
     refine pu_ (i := 12) (N := some 174) (v := ?_) (a' := ?_) rfl rfl (by kernel_rfl) (fun _ _ _ h => h) (by rfl) ?_ ?_ ?_
     rotate_left
     · (intro w'; go_simp; with_reducible rfl)
     rotate_left
     · (simp only [put_s, List.set, i64_w, i32_w]; rfl)
     refine pu_ (i := 13) (N := some 175) (v := ?_) (a' := ?_) rfl rfl (by kernel_rfl) (fun _ _ _ h => h) (by rfl) ?_ ?_ ?_
     rotate_left
     · (intro w'; go_simp; with_reducible rfl)
     rotate_left
     · (simp only [put_s, List.set, i64_w, i32_w]; rfl)
     refine on_ (i := 10) (N := some 172) rfl rfl (by kernel_rfl) (by decide) (fun K hK => ?_)
     refine value_ (v := .slice (some ⟨(W7).drew.heap.size, 0, none⟩) 4 4) (w1 := (W7).drew.alloc (.cells #[.int .i64 m, .int .i64 m, .int .i64 m, .int .i64 m] 3)) (by rfl) rfl (by go_simp) ?_
     refine hK.out _ _ ((World.cell?_alloc_lt _ _ _ (World.block_lt_of_cell? _ _ hHeld)).trans hHeld) (fun hHeld => ?_)
     clear hK K
     refine norm_ (a' := ?_) ?_ ?_
     rotate_left
     ·
      show Act.put _ (some 172) _ = _
      simp only [put_s, List.set, i64_w, i32_w]
      rfl
     refine la_ (i := 11) (N := some 173) rfl rfl (by kernel_rfl) (by decide) (fun K hK => ?_)
     refine Kd.R_append_rows_step i64K (Rr := i64K.K _) (w0 := W7) 0 (by rfl) (.tmp 167) (.tmp 172) 23 3 (.int .i64 0) 8 rfl Try.underlying23 info3 rfl (by decide) (by decide) (.slice A10 Ks1.length c10) Ks1 [m, m, m, m] (some ⟨(W7).drew.heap.size, 0, none⟩) 4 4 (fun k => tagged W7 (tagged wq O 13) 16 k = 16) (fun _ => False) rfl rfl (Ow.alloc HR10.out (Below.alloc (Below.drew (Below.refl _ _)) (Nat.le_refl _) _)) (lit_rows (heap_alloc_new _ _) (by simp)) (fun _ _ hh => hh) (fun _ hk => hk.elim) (fun q hq => tagged_new (by have hz : (W7).heap.size + 1 ≤ q := (by simpa using hq); omega)) (Below.alloc (Below.drew (Below.refl 0 _)) (Nat.zero_le _) _) (Nat.zero_le _) (by omega) ?_
     intro v9 w9 ho hb hg hat
     obtain ⟨s9, rfl, ho', hk'⟩ := Ow.pushed HR10.out (Below.alloc (Below.drew (Below.refl _ _)) (Nat.le_refl _) _) ho hg
     clear ho hb hg hat
     have hbb := Blk.keep HBS.out hk' (by rw [HG8.out]; decide)
     have HBK9 := Lib.hid hbb.1
     have HG9 := Lib.hid (hbb.2.trans HG8.out)
     have HG09 := Lib.hid HG8.out
     have HO9 := Lib.hid ho'
     have HK9 := Lib.hid hk'
     have c9 := Blk.cell (i := 11) hbb.1 rfl
     have z9 := Blk.frozen (i := 11) hbb.1
     clear ho' hk' hbb
     refine hK.out _ _ ?_
     clear hK K
     refine norm_ (a' := ?_) ?_ ?_
     rotate_left
     ·
      show Act.put _ (some 173) _ = _
      simp only [put_s, List.set, i64_w, i32_w]
      rfl
     refine pu_ (i := 14) (N := some 176) (v := ?_) (a' := ?_) rfl rfl (by kernel_rfl) (fun _ _ _ h => h) (by rfl) ?_ ?_ ?_
     rotate_left
     · (intro w'; go_simp; with_reducible rfl)
     rotate_left
     · (simp only [put_s, List.set, i64_w, i32_w]; rfl)
     refine la_ (i := 15) (N := none) rfl rfl (by kernel_rfl) (by decide) (fun K hK => ?_)
     refine skip_ (w1 := w9.setCell ⟨g, 11, none⟩ s9.enc) (by rfl) rfl (by simp only [Sl.enc]; go_simp) ?_
     refine hK.out _ _ ?_
     clear hK K
     refine done_ (by kernel_rfl) ?_
     clear c9 z9
     obtain ⟨hb', hk', ho'⟩ := push_end 11 HBK9.out HK9.out HO9.out HG09.out (by decide)
     have HBS9 := Lib.hid hb'
     have HKS9 := Lib.hid hk'
     have HOS9 := Lib.hid ho'
     have HGS9 := Lib.hid HG9.out
     clear hb' hk' ho' HBK9 HK9 HO9 HG9 HG09
     generalize w9.setCell ⟨g, 11, none⟩ s9.enc = W9 at *
     go_wp2_with fail
     obtain rfl := HM.out
     have HE := growM_end HR (z1 := ⟨lA, ln, lc⟩) (z2 := ⟨vA1, ln + 1, vc1⟩) (z3 := ⟨vA2, ln + 2, vc2⟩) (z4 := ⟨vA3, ln + 3, vc3⟩) (fun z hz => HST.out.all z (by simp only [List.mem_cons, List.not_mem_nil, or_false] at hz ⊢; rcases hz with hh | hh | hh | hh; exact .inr (.inr (.inr hh)); exact .inr (.inr (.inl hh)); exact .inr (.inl hh); exact .inl hh)) (fun z hz => by simp only [List.mem_cons, List.not_mem_nil, or_false] at hz; rcases hz with rfl | rfl | rfl | rfl <;> (dsimp only; omega)) HST.out.kp HKS.out HOS.out HKS9.out HOS9.out HBS9.out HGS9.out
     exact ⟨⟨j + 1, by omega, by go_num, _, _, _, _, _, HE⟩, by simp [intOf]; omega⟩
    ·
     obtain rfl : j = h.T.length := by omega
     have dl : decide (((h.T.length : Nat) : Int) < ((h.T.length : Nat) : Int)) = false := by simp
     obtain ⟨A1, c1, hc1, k1, hl1⟩ := row_at (i := 3) HR.2.2.out.1.blk rfl HR.2.2.out.1.t0
     rw [List.length_map] at hc1 k1 hl1
     dsimp only at hc1 k1 hl1
     clear hl1
     go_wp2_with fail
     clear k1 hc0 dl
     have HRM := HR
     clear HR
     go_loopw [19, 20, 21, 22, 23, 24, 25] (fun i _l _m _x _o _t _h wr => ∃ j : Nat, j ≤ h.A.length ∧ i = .int .i64 (j : Int) ∧ ∃ o9 sb9 sk9 B9 Ks9, RelR w own w.heap.size g { { s with b := sb, k0 := sk } with m := sb1, k1 := sk1 } { { h with B := B, K0 := Ks } with M := B1, K1 := Ks1 } a0 a1 a2 j wr o9 sb9 sk9 B9 Ks9) (fun i _ _ _ _ _ _ _ => h.A.length - (intOf i).toNat)
     case atStart => exact ⟨0, by omega, rfl, _, _, _, _, _, relMR HRM HLR.out⟩
     case round =>
      obtain ⟨j, hj, rfl, o, sb2, sk2, B2, Ks2, HR⟩ := hrel
      have hc0 : wr.cell? ⟨w.heap.size, 2, none⟩ = some (.int .i64 a2) := Blk.cell (i := 2) HR.2.1.out.1 rfl
      by_cases hlt : j < h.A.length
      ·
       have dl : decide ((j : Int) < (h.A.length : Int)) = true := by simp; omega
       have hB5 : B2.length + 4 ≤ 5000000000000 := by have h9 := HR.1.out.1; dsimp only at h9; omega
       have hK5 : Ks2.length + 4 ≤ 5000000000000 := by have h9 := HR.1.out.1; have h8 := HR.1.out.2.2.1; dsimp only at h9; omega
       obtain ⟨p, hp⟩ : ∃ p, h.A[j]? = some p := ⟨h.A[j], List.getElem?_eq_getElem hlt⟩
       obtain ⟨A1, c1, hc1, k1, hl1⟩ := row_at (i := 5) HR.2.2.out.1.blk rfl HR.2.2.out.1.a0
       rw [List.length_map] at hc1 k1 hl1
       dsimp only at hc1 k1 hl1
       obtain ⟨ad, rfl, e1⟩ := sl_at hl1 j hlt p.1 (by rw [List.getElem?_map, hp]; rfl)
       have hpn := HAN.out p (List.mem_of_getElem? hp)
       have HST := Lib.hid (show GSt wr o (32 * j + 10) 44 4 (fR (a2 - 4 * (j : Int))) wr o [p.1] from ⟨Kp.refl _ _ _, fun z hz => by simp at hz; subst hz; exact HR.2.2.out.2 j p (Nat.le_refl _) hp⟩)
       clear hp hl1
       generalize p.1 = l at e1 hpn HST
       obtain ⟨lA, ln, lc⟩ := l
       simp only [Sl.enc] at e1
       have hpn' : ln ≤ 1000000000000 := hpn
       clear hpn
       go_upto_region 33 with (fail)
       clear k1 e1 hc0
       obtain ⟨m, hm⟩ : ∃ m : Int, m = a2 - 4 * (j : Int) := ⟨_, rfl⟩
       rw [← hm] at HST
       simp only [← hm]
       have HM := Lib.hid hm
       clear hm
       have HX := Lib.hid (show Blk (wr.alloc (.cells #[.int .i64 m, .int .i64 m, .int .i64 0, .slice none 0 0] 44)) wr.heap.size #[.int .i64 m, .int .i64 m, .int .i64 0, .slice none 0 0] 44 ∧ tagged wr o 25 wr.heap.size = 25 from ⟨blkNew rfl, tagged_new (Nat.le_refl _)⟩)
       replace HST := Lib.hid (GSt.below HST.out 25 (Below.alloc (Below.refl _ _) (Nat.le_refl _) (.cells #[.int .i64 m, .int .i64 m, .int .i64 0, .slice none 0 0] 44)))
       obtain ⟨gx, hgx⟩ : ∃ gx, gx = wr.heap.size := ⟨_, rfl⟩
       have HGX := Lib.hid hgx
       simp only [← hgx] at HX ⊢
       clear hgx
       generalize wr.alloc (.cells #[.int .i64 m, .int .i64 m, .int .i64 0, .slice none 0 0] 44) = W1 at HX HST ⊢
       generalize tagged wr o 25 = o1 at HX HST
       have x0 := Blk.cell (i := 0) HX.out.1 rfl
       have x1 := Blk.cell (i := 1) HX.out.1 rfl
       have x2 := Blk.cell (i := 2) HX.out.1 rfl
       have x3 := Blk.cell (i := 3) HX.out.1 rfl
       go_upto_region 36 with (first
        | ((with_reducible refine gate_builtin (b := .append) (xs := #[.tmp 203, .tmp 205]) rfl ?_); at_builtin; refine ga_ (t := 32 * j + 10) (sz := 4) (bytes := 48) (f := fR m) (z := ⟨lA, ln, lc⟩) rfl (.tmp 203) (.tmp 205) 41 44 rfl Try.underlying41 info44 rfl (by decide) (by decide) 1 1 (by decide) rfl rfl (Below.alloc (Below.refl _ _) (Nat.le_refl _) _) (HST.out.all _ (by simp)) (fR_oneC m) (by rw [fR_1]; exact heap_alloc_new _ _) (by show (ln + 1) * 48 ≤ _; omega) ?_; intro v1 w1 hn1 hf1 hf2 hk1; obtain ⟨vA1, vn1, vc1⟩ := v1; have hn1' : vn1 = ln + 1 := hn1; subst hn1'; replace HX := Lib.hid (show _ ∧ _ from ⟨(Blk.keep HX.out.1 hk1 (by rw [HX.out.2]; (intro hq; first | omega | (dsimp only at hq; omega) | (dsimp only at hq; done)))).1, (Blk.keep HX.out.1 hk1 (by rw [HX.out.2]; (intro hq; first | omega | (dsimp only at hq; omega) | (dsimp only at hq; done)))).2.trans HX.out.2⟩); replace HST := Lib.hid (GSt.push HST.out hf1 hf2 hk1); clear hn1 hf1 hf2 hk1; clear x0 x1 x2 x3; have x0 := Blk.cell (i := 0) HX.out.1 rfl; have x1 := Blk.cell (i := 1) HX.out.1 rfl; have x2 := Blk.cell (i := 2) HX.out.1 rfl; have x3 := Blk.cell (i := 3) HX.out.1 rfl; simp only [Sl.enc])
        | ((with_reducible refine gate_builtin (b := .append) (xs := #[.tmp 207, .tmp 210]) rfl ?_); at_builtin; refine ga_ (t := 32 * j + 10) (sz := 4) (bytes := 48) (f := fR m) (z := ⟨lA, ln, lc⟩) rfl (.tmp 207) (.tmp 210) 41 44 rfl Try.underlying41 info44 rfl (by decide) (by decide) 2 2 (by decide) rfl rfl (Below.alloc (Below.refl _ _) (Nat.le_refl _) _) (HST.out.all _ (by simp)) (fR_oneC m) (by rw [fR_2]; exact heap_alloc_new _ _) (by show (ln + 2) * 48 ≤ _; omega) ?_; intro v2 w2 hn1 hf1 hf2 hk1; obtain ⟨vA2, vn2, vc2⟩ := v2; have hn1' : vn2 = ln + 2 := hn1; subst hn1'; replace HX := Lib.hid (show _ ∧ _ from ⟨(Blk.keep HX.out.1 hk1 (by rw [HX.out.2]; (intro hq; first | omega | (dsimp only at hq; omega) | (dsimp only at hq; done)))).1, (Blk.keep HX.out.1 hk1 (by rw [HX.out.2]; (intro hq; first | omega | (dsimp only at hq; omega) | (dsimp only at hq; done)))).2.trans HX.out.2⟩); replace HST := Lib.hid (GSt.push HST.out hf1 hf2 hk1); clear hn1 hf1 hf2 hk1; clear x0 x1 x2 x3; have x0 := Blk.cell (i := 0) HX.out.1 rfl; have x1 := Blk.cell (i := 1) HX.out.1 rfl; have x2 := Blk.cell (i := 2) HX.out.1 rfl; have x3 := Blk.cell (i := 3) HX.out.1 rfl; simp only [Sl.enc])
        | ((with_reducible refine gate_builtin (b := .append) (xs := #[.tmp 212, .tmp 216]) rfl ?_); at_builtin; refine ga_ (t := 32 * j + 10) (sz := 4) (bytes := 48) (f := fR m) (z := ⟨lA, ln, lc⟩) rfl (.tmp 212) (.tmp 216) 41 44 rfl Try.underlying41 info44 rfl (by decide) (by decide) 3 3 (by decide) rfl rfl (Below.alloc (Below.refl _ _) (Nat.le_refl _) _) (HST.out.all _ (by simp)) (fR_oneC m) (by rw [fR_3]; exact heap_alloc_new _ _) (by show (ln + 3) * 48 ≤ _; omega) ?_; intro v3 w3 hn1 hf1 hf2 hk1; obtain ⟨vA3, vn3, vc3⟩ := v3; have hn1' : vn3 = ln + 3 := hn1; subst hn1'; replace HX := Lib.hid (show _ ∧ _ from ⟨(Blk.keep HX.out.1 hk1 (by rw [HX.out.2]; (intro hq; first | omega | (dsimp only at hq; omega) | (dsimp only at hq; done)))).1, (Blk.keep HX.out.1 hk1 (by rw [HX.out.2]; (intro hq; first | omega | (dsimp only at hq; omega) | (dsimp only at hq; done)))).2.trans HX.out.2⟩); replace HST := Lib.hid (GSt.push HST.out hf1 hf2 hk1); clear hn1 hf1 hf2 hk1; clear x0 x1 x2 x3; have x0 := Blk.cell (i := 0) HX.out.1 rfl; have x1 := Blk.cell (i := 1) HX.out.1 rfl; have x2 := Blk.cell (i := 2) HX.out.1 rfl; have x3 := Blk.cell (i := 3) HX.out.1 rfl; simp only [Sl.enc]))
       clear x0 x1 x2 x3
       obtain ⟨wq, rfl⟩ : ∃ wq, wq = w3 := ⟨_, rfl⟩
       obtain ⟨O, HST⟩ : ∃ O, Hid (GSt wr o (32 * j + 10) 44 4 (fR m) wq O [⟨vA3, ln + 3, vc3⟩, ⟨vA2, ln + 2, vc2⟩, ⟨vA1, ln + 1, vc1⟩, ⟨lA, ln, lc⟩]) := ⟨_, HST⟩
       clear HX HGX
       obtain ⟨A7, c7, hc7, k7, hl7⟩ := row_ow (i := 9) HR.2.2.out.1.blk rfl HR.2.2.out.1.r.1
       rw [List.length_map] at hc7 k7 hl7
       have HR7 := Lib.hid (Ow.keep hl7 HST.out.kp (by (intro hq; first | omega | (dsimp only at hq; omega) | (dsimp only at hq; done))))
       have hb7 := Blk.keep HR.2.2.out.1.blk HST.out.kp (by rw [HR.2.2.out.1.og]; (intro hq; first | omega | (dsimp only at hq; omega) | (dsimp only at hq; done)))
       have HB7 := Lib.hid hb7.1
       have HG7 := Lib.hid (hb7.2.trans HR.2.2.out.1.og)
       have k7' : wq.cell? ⟨g, 9, none⟩ = some (.slice A7 B2.length c7) := (Blk.cell (i := 9) hb7.1 rfl).trans ((Blk.cell (i := 9) HR.2.2.out.1.blk rfl).symm.trans k7)
       clear hl7 hb7 k7
       go_wp2_with (
        ((with_reducible refine gate_builtin (b := .append) (xs := #[.tmp 222, .tmp 227]) rfl ?_); at_builtin; refine Kd.R_append_rows slK (Rr := slK.K _) (w0 := wq) 0 rfl (.tmp 222) (.tmp 227) 57 41 (.slice none 0 0) 24 rfl Try.underlying57 info41 rfl (by decide) (by decide) (.slice A7 B2.length c7) (B2.map (·.1)) [⟨lA, ln, lc⟩, ⟨vA1, ln + 1, vc1⟩, ⟨vA2, ln + 2, vc2⟩, ⟨vA3, ln + 3, vc3⟩] (some ⟨wq.heap.size, 0, none⟩) 4 4 (fun k => tagged wq O 14 k = 14) (fun _ => False) rfl rfl (Ow.alloc HR7.out (Below.alloc (Below.refl _ _) (Nat.le_refl _) _)) (lit_rows (heap_alloc_new _ _) (by simp)) (fun _ _ hh => hh) (fun _ hk => hk.elim) (fun q hq => tagged_new (by simp at hq; omega)) (Below.alloc (Below.refl 0 _) (Nat.zero_le _) _) (Nat.zero_le _) ?hl ?_; (case hl => simp; omega); intro v7 w7 ho hb hg hat; obtain ⟨s7, rfl, ho', hk'⟩ := Ow.pushed HR7.out (Below.alloc (Below.refl _ _) (Nat.le_refl _) _) ho hg; have hbb := Blk.keep HB7.out hk' (by rw [HG7.out]; decide); have HB8 := Lib.hid hbb.1; have HG8 := Lib.hid (hbb.2.trans HG7.out); have c8 := Blk.cell (i := 9) hbb.1 rfl; have z8 := Blk.frozen (i := 9) hbb.1; have l8 := Blk.lt hbb.1; have HO8 := Lib.hid ho'; have HK8 := Lib.hid hk'; clear ho hb hg hat ho' hk' hbb; simp only [Sl.enc]))
       obtain ⟨hb', hk', ho'⟩ := push_end 9 HB8.out HK8.out HO8.out HG7.out (by decide)
       have HBS := Lib.hid hb'
       have HKS := Lib.hid hk'
       have HOS := Lib.hid ho'
       clear hb' hk' ho' HB8 HK8 HO8 c8 z8 l8 k7'
       obtain ⟨A10, c10, hc10, k10, hl10⟩ := row_ow (i := 12) HR.2.2.out.1.blk rfl HR.2.2.out.1.k2
       have HR10 := Lib.hid (Ow.keep (Ow.keep hl10 HST.out.kp (by (intro hq; first | omega | (dsimp only at hq; omega) | (dsimp only at hq; done)))) HKS.out (by (intro hq; first | omega | (dsimp only at hq; omega) | (dsimp only at hq; done))))
       have k10' : (w7.setCell ⟨g, 9, none⟩ s7.enc).cell? ⟨g, 12, none⟩ = some (.slice A10 Ks2.length c10) := (Blk.cell (i := 12) HBS.out rfl).trans ((Blk.cell (i := 12) HR.2.2.out.1.blk rfl).symm.trans k10)
       clear hl10 k10
       simp only [show Value.slice s7.A s7.n s7.c = s7.enc from rfl]
       generalize w7.setCell ⟨g, 9, none⟩ s7.enc = W7 at HBS HKS HOS HR10 k10' ⊢
       refine start_ (n := 16) (S := fun w' => w'.cell? ⟨g, 12, none⟩ = some (.slice A10 Ks2.length c10)) (ds := [11, 15]) #[false, false, false, false, false, false, false, false, false, false, false, false, false, false, false, false] (by kernel_rfl) rfl rfl k10' (fun hHeld => ?_)
       refine pu_ (i := 0) (N := some 231) (v := ?_) (a' := ?_) rfl rfl (by kernel_rfl) (fun _ _ _ h => h) (by rfl) ?_ ?_ ?_
       rotate_left
       · (intro w'; go_simp; with_reducible rfl)
       rotate_left
       · (simp only [put_s, List.set, i64_w, i32_w]; rfl)
       refine pu_ (i := 1) (N := some 232) (v := ?_) (a' := ?_) rfl rfl (by kernel_rfl) (fun _ _ _ h => h) (by rfl) ?_ ?_ ?_
       rotate_left
       · (intro w'; go_simp; with_reducible rfl)
       rotate_left
       · (simp only [put_s, List.set, i64_w, i32_w]; rfl)
       refine pu_ (i := 2) (N := some 233) (v := ?_) (a' := ?_) rfl rfl (by kernel_rfl) (fun _ _ _ h => h) (by rfl) ?_ ?_ ?_
       rotate_left
       · (intro w'; go_simp; with_reducible rfl)
       rotate_left
       · (simp only [put_s, List.set, i64_w, i32_w]; rfl)
       refine pu_ (i := 3) (N := some 234) (v := ?_) (a' := ?_) rfl rfl (by kernel_rfl) (fun _ _ _ h => h) (by rfl) ?_ ?_ ?_
       rotate_left
       · (intro w'; go_simp; with_reducible rfl)
       rotate_left
       · (simp only [put_s, List.set, i64_w, i32_w]; rfl)
       refine pu_ (i := 4) (N := some 235) (v := ?_) (a' := ?_) rfl rfl (by kernel_rfl) (fun _ _ _ h => h) (by rfl) ?_ ?_ ?_
       rotate_left
       · (intro w'; go_simp; with_reducible rfl)
       rotate_left
       · (simp only [put_s, List.set, i64_w, i32_w]; rfl)
       refine tk_ (i := 5) (N := some 236) (v := ?_) (a' := ?_) rfl rfl (by kernel_rfl) (fun _ _ _ h => h) (by rfl) ?_ hHeld ?_ ?_
       rotate_left
       · (intro w' s0; go_simp; with_reducible rfl)
       rotate_left
       · (simp only [put_s, List.set, i64_w, i32_w]; rfl)
       refine pu_ (i := 6) (N := some 237) (v := ?_) (a' := ?_) rfl rfl (by kernel_rfl) (fun _ _ _ h => h) (by rfl) ?_ ?_ ?_
       rotate_left
       · (intro w'; go_simp; with_reducible rfl)
       rotate_left
       · (simp only [put_s, List.set, i64_w, i32_w]; rfl)
       refine pu_ (i := 7) (N := some 238) (v := ?_) (a' := ?_) rfl rfl (by kernel_rfl) (fun _ _ _ h => h) (by rfl) ?_ ?_ ?_
       rotate_left
       · (intro w'; go_simp; with_reducible rfl)
       rotate_left
       · (simp only [put_s, List.set, i64_w, i32_w]; rfl)
       refine pu_ (i := 8) (N := some 239) (v := ?_) (a' := ?_) rfl rfl (by kernel_rfl) (fun _ _ _ h => h) (by rfl) ?_ ?_ ?_
       rotate_left
       · (intro w'; go_simp; with_reducible rfl)
       rotate_left
       · (simp only [put_s, List.set, i64_w, i32_w]; rfl)
       refine pu_ (i := 9) (N := some 240) (v := ?_) (a' := ?_) rfl rfl (by kernel_rfl) (fun _ _ _ h => h) (by rfl) ?_ ?_ ?_
       rotate_left
       · (intro w'; go_simp; with_reducible rfl)
       rotate_left
       · (simp only [put_s, List.set, i64_w, i32_w]; rfl)
       refine pu_ (i := 12) (N := some 243) (v := ?_) (a' := ?_) rfl rfl (by kernel_rfl) (fun _ _ _ h => h) (by rfl) ?_ ?_ ?_
       rotate_left
       · (intro w'; go_simp; with_reducible rfl)
       rotate_left
       · (simp only [put_s, List.set, i64_w, i32_w]; rfl)
       refine pu_ (i := 13) (N := some 244) (v := ?_) (a' := ?_) rfl rfl (by kernel_rfl) (fun _ _ _ h => h) (by rfl) ?_ ?_ ?_
       rotate_left
       · (intro w'; go_simp; with_reducible rfl)
       rotate_left
       · (simp only [put_s, List.set, i64_w, i32_w]; rfl)
       refine on_ (i := 10) (N := some 241) rfl rfl (by kernel_rfl) (by decide) (fun K hK => ?_)
       refine value_ (v := .slice (some ⟨(W7).drew.heap.size, 0, none⟩) 4 4) (w1 := (W7).drew.alloc (.cells #[.int .i64 m, .int .i64 m, .int .i64 m, .int .i64 m] 3)) (by rfl) rfl (by go_simp) ?_
       refine hK.out _ _ ((World.cell?_alloc_lt _ _ _ (World.block_lt_of_cell? _ _ hHeld)).trans hHeld) (fun hHeld => ?_)
       clear hK K
       refine norm_ (a' := ?_) ?_ ?_
       rotate_left
       ·
        show Act.put _ (some 241) _ = _
        simp only [put_s, List.set, i64_w, i32_w]
        rfl
       refine la_ (i := 11) (N := some 242) rfl rfl (by kernel_rfl) (by decide) (fun K hK => ?_)
       refine Kd.R_append_rows_step i64K (Rr := i64K.K _) (w0 := W7) 0 (by rfl) (.tmp 236) (.tmp 241) 23 3 (.int .i64 0) 8 rfl Try.underlying23 info3 rfl (by decide) (by decide) (.slice A10 Ks2.length c10) Ks2 [m, m, m, m] (some ⟨(W7).drew.heap.size, 0, none⟩) 4 4 (fun k => tagged W7 (tagged wq O 14) 17 k = 17) (fun _ => False) rfl rfl (Ow.alloc HR10.out (Below.alloc (Below.drew (Below.refl _ _)) (Nat.le_refl _) _)) (lit_rows (heap_alloc_new _ _) (by simp)) (fun _ _ hh => hh) (fun _ hk => hk.elim) (fun q hq => tagged_new (by have hz : (W7).heap.size + 1 ≤ q := (by simpa using hq); omega)) (Below.alloc (Below.drew (Below.refl 0 _)) (Nat.zero_le _) _) (Nat.zero_le _) (by omega) ?_
       intro v9 w9 ho hb hg hat
       obtain ⟨s9, rfl, ho', hk'⟩ := Ow.pushed HR10.out (Below.alloc (Below.drew (Below.refl _ _)) (Nat.le_refl _) _) ho hg
       clear ho hb hg hat
       have hbb := Blk.keep HBS.out hk' (by rw [HG8.out]; decide)
       have HBK9 := Lib.hid hbb.1
       have HG9 := Lib.hid (hbb.2.trans HG8.out)
       have HG09 := Lib.hid HG8.out
       have HO9 := Lib.hid ho'
       have HK9 := Lib.hid hk'
       have c9 := Blk.cell (i := 12) hbb.1 rfl
       have z9 := Blk.frozen (i := 12) hbb.1
       clear ho' hk' hbb
       refine hK.out _ _ ?_
       clear hK K
       refine norm_ (a' := ?_) ?_ ?_
       rotate_left
       ·
        show Act.put _ (some 242) _ = _
        simp only [put_s, List.set, i64_w, i32_w]
        rfl
       refine pu_ (i := 14) (N := some 245) (v := ?_) (a' := ?_) rfl rfl (by kernel_rfl) (fun _ _ _ h => h) (by rfl) ?_ ?_ ?_
       rotate_left
       · (intro w'; go_simp; with_reducible rfl)
       rotate_left
       · (simp only [put_s, List.set, i64_w, i32_w]; rfl)
       refine la_ (i := 15) (N := none) rfl rfl (by kernel_rfl) (by decide) (fun K hK => ?_)
       refine skip_ (w1 := w9.setCell ⟨g, 12, none⟩ s9.enc) (by rfl) rfl (by simp only [Sl.enc]; go_simp) ?_
       refine hK.out _ _ ?_
       clear hK K
       refine done_ (by kernel_rfl) ?_
       clear c9 z9
       obtain ⟨hb', hk', ho'⟩ := push_end 12 HBK9.out HK9.out HO9.out HG09.out (by decide)
       have HBS9 := Lib.hid hb'
       have HKS9 := Lib.hid hk'
       have HOS9 := Lib.hid ho'
       have HGS9 := Lib.hid HG9.out
       clear hb' hk' ho' HBK9 HK9 HO9 HG9 HG09
       generalize w9.setCell ⟨g, 12, none⟩ s9.enc = W9 at *
       go_wp2_with fail
       obtain rfl := HM.out
       have HE := growR_end HR (z1 := ⟨lA, ln, lc⟩) (z2 := ⟨vA1, ln + 1, vc1⟩) (z3 := ⟨vA2, ln + 2, vc2⟩) (z4 := ⟨vA3, ln + 3, vc3⟩) (fun z hz => HST.out.all z (by simp only [List.mem_cons, List.not_mem_nil, or_false] at hz ⊢; rcases hz with hh | hh | hh | hh; exact .inr (.inr (.inr hh)); exact .inr (.inr (.inl hh)); exact .inr (.inl hh); exact .inl hh)) (fun z hz => by simp only [List.mem_cons, List.not_mem_nil, or_false] at hz; rcases hz with rfl | rfl | rfl | rfl <;> (dsimp only; omega)) HST.out.kp HKS.out HOS.out HKS9.out HOS9.out HBS9.out HGS9.out
       exact ⟨⟨j + 1, by omega, by go_num, _, _, _, _, _, HE⟩, by simp [intOf]; omega⟩
      ·
       obtain rfl : j = h.A.length := by omega
       have dl : decide (((h.A.length : Nat) : Int) < ((h.A.length : Nat) : Int)) = false := by simp
       obtain ⟨A1, c1, hc1, k1, hl1⟩ := row_at (i := 5) HR.2.2.out.1.blk rfl HR.2.2.out.1.a0
       rw [List.length_map] at hc1 k1 hl1
       dsimp only at hc1 k1 hl1
       clear hl1
       go_wp2_with fail
       go_end0
       exact ⟨rfl, grown_end ⟨HRB.1.out.2.2, HRB.1.out.1⟩ ⟨HRM.1.out.2.2, HRM.1.out.1⟩ HR⟩
end Go.Proofs.Ytpflenaoplblkaa.PaW
end
section
namespace Go.Proofs.Ytpflenaoplblkaa.PaXa
open Go.RowKit YtpflenaoplblkaaW.PrintWords YtpflenaoplblkaaW.PrintLast ProA ProB ProC ProI ProD ProG ProJ ProK ProL ProM ProN ProO ProP ProQ ProR ProU ProZ ProBb PaA
open ProH (msgTab repTab ba)
open ProS PaI PaJ PaK PaL
open PaM PaN PaO PaP PaQ PaR PaS PaT PaU PaV PaWa PaW
set_option linter.unusedVariables false
set_option linter.unusedSimpArgs false
theorem ow_cur {α : Type} {d : Kd α} {e : Nat} {w : World} {own : Nat → Nat} {t gb n c : Nat} {xs : List α} (h : Ow d e w own t ⟨some ⟨gb, 0, none⟩, n, c⟩ xs) : ∃ cur, w.heap[gb]? = some (.cells cur e (0, 0)) ∧ cur.size = c * d.sz ∧ n ≤ c := by
 obtain ⟨inner, ho⟩ := Kd.R_own h
 rcases ho.2 with ⟨hv, _⟩ | ⟨g, cap, cur, hv, hb, hh, hnc, hcm, hcs, _⟩
 · simp [Sl.enc] at hv
 ·
  simp only [Sl.enc, Value.slice.injEq, Option.some.injEq, Addr.mk.injEq] at hv
  obtain ⟨⟨rfl, _⟩, h2, rfl⟩ := hv
  exact ⟨cur, hh, hcs, by omega⟩
theorem run_stC {P : Program} {W : World} {oi : Oper} {a : Act} {gb o e : Nat} {cur : Array Value} (t : TypeId) (p x : Operand) (ho : oi.op = .store t p x) (u : Value) (seg : List Value) (ha : a.eval p = .pointer (some ⟨gb, o, none⟩)) (hx : a.eval x = u) (hh : W.heap[gb]? = some (.cells cur e (0, 0))) (hu : u.cells.toList = seg) (ht : (P.info? t).map (·.size) = some seg.length) (hfit : o + seg.length ≤ cur.size) (h1 : ∀ q ∈ seg, q.oneCell' = true) :
  (execOp a.eval oi).run P W = .ok .skip (W.setCells gb o seg) := by
 unfold execOp
 simp only [ho, ha, hx, Sem.run_bind, Sem.run_pure, Result.andThen_ok, run_store_run t u seg hh hu ht hfit h1]
theorem mcK_put {w : World} {own : Nat → Nat} {t gb n c : Nat} {xs : List MC} (h : Ow mcK 35 w own t ⟨some ⟨gb, 0, none⟩, n, c⟩ xs) (j : Nat) (hj : j < n) (x : MC) :
  Ow mcK 35 (w.setCells gb (j * 5) x.cells) own t ⟨some ⟨gb, 0, none⟩, n, c⟩ (xs.set j x) ∧ Kp (fun q => q = t) w own (w.setCells gb (j * 5) x.cells) own := by
 obtain ⟨l1, l2, l3⟩ := ow_len h
 have hjx : j < xs.length := by rw [l1]; exact hj
 obtain ⟨ad, ha, hc0⟩ := l3.2.2 (by omega)
 injection ha with ha
 subst ha
 obtain ⟨cc, h1, h2, h3⟩ := hc0 j xs[j] (List.getElem?_eq_getElem hjx)
 obtain ⟨a, b⟩ := Kd.R_seg (d := mcK) (W := w) (okp := fun _ => False) (x' := x) (c := cc) (seg := x.cells) (j := 0) h (j : Int) (by omega) (by show (j : Int) < n; omega) h1 (fun i u hu => by
  have := h3 i u hu
  rw [add_plain] at this
  rw [Int.toNat_natCast]
  exact this) (by show 0 + 5 ≤ 5; omega) (by
  have hd : cc.drop (0 + x.cells.length) = [] := by rw [List.drop_eq_nil_iff, h1]; show 5 ≤ 0 + 5; omega
  rw [hd, List.take_zero, List.nil_append, List.append_nil]
  exact (rfl : x.cells = x.cells)) (fun k hk => hk.elim)
 rw [Int.toNat_natCast, Nat.add_zero] at a b
 exact ⟨a, b.os, b.tape, b.output, b.size, fun k hk hn => ⟨rfl, b.block k hk (fun e => hn (by injection e with e; rw [e]; exact (ow_blk h gb rfl).1))⟩⟩
theorem rcK_put {w : World} {own : Nat → Nat} {t gb n c : Nat} {xs : List RC} (h : Ow rcK 44 w own t ⟨some ⟨gb, 0, none⟩, n, c⟩ xs) (j : Nat) (hj : j < n) (x : RC) :
  Ow rcK 44 (w.setCells gb (j * 4) x.cells) own t ⟨some ⟨gb, 0, none⟩, n, c⟩ (xs.set j x) ∧ Kp (fun q => q = t) w own (w.setCells gb (j * 4) x.cells) own := by
 obtain ⟨l1, l2, l3⟩ := ow_len h
 have hjx : j < xs.length := by rw [l1]; exact hj
 obtain ⟨ad, ha, hc0⟩ := l3.2.2 (by omega)
 injection ha with ha
 subst ha
 obtain ⟨cc, h1, h2, h3⟩ := hc0 j xs[j] (List.getElem?_eq_getElem hjx)
 obtain ⟨a, b⟩ := Kd.R_seg (d := rcK) (W := w) (okp := fun _ => False) (x' := x) (c := cc) (seg := x.cells) (j := 0) h (j : Int) (by omega) (by show (j : Int) < n; omega) h1 (fun i u hu => by
  have := h3 i u hu
  rw [add_plain] at this
  rw [Int.toNat_natCast]
  exact this) (by show 0 + 4 ≤ 4; omega) (by
  have hd : cc.drop (0 + x.cells.length) = [] := by rw [List.drop_eq_nil_iff, h1]; show 4 ≤ 0 + 4; omega
  rw [hd, List.take_zero, List.nil_append, List.append_nil]
  exact (rfl : x.cells = x.cells)) (fun k hk => hk.elim)
 rw [Int.toNat_natCast, Nat.add_zero] at a b
 exact ⟨a, b.os, b.tape, b.output, b.size, fun k hk hn => ⟨rfl, b.block k hk (fun e => hn (by injection e with e; rw [e]; exact (ow_blk h gb rfl).1))⟩⟩
structure Wr {α : Type} (X : Int → Nat → List α) (F F' : List (Sl × List α)) (m : Nat → Int) (j : Nat) : Prop where
 sl : F'.map (·.1) = F.map (·.1)
 wr : ∀ (i : Nat) (p : Sl × List α), i < j → F'[i]? = some p → p.2 = X (m i) p.1.n
theorem Wr.zero {α : Type} (X : Int → Nat → List α) (F : List (Sl × List α)) (m : Nat → Int) : Wr X F F m 0 := ⟨rfl, fun i p hi _ => by omega⟩
theorem Wr.len {α : Type} {X : Int → Nat → List α} {F F' : List (Sl × List α)} {m : Nat → Int} {j : Nat} (h : Wr X F F' m j) : F'.length = F.length := by have := congrArg List.length h.sl; simpa using this
theorem PO.set {α : Type} {d : Kd α} {e er tr ti : Nat} {w w' : World} {own : Nat → Nat} {v : Sl} {F : List (Sl × List α)} {j : Nat} {p : Sl × List α} {ys : List α} (h : PO d e er tr ti w own v F) (hp : F[j]? = some p) (hk : Kp (fun q => q = 32 * j + ti) w own w' own) (htr : ∀ i, 32 * i + ti ≠ tr) (ho : Ow d e w' own (32 * j + ti) p.1 ys) :
  PO d e er tr ti w' own v (F.set j (p.1, ys)) := by
 have hjl := (List.getElem?_eq_some_iff.1 hp).1
 have hm : (F.set j (p.1, ys)).map (·.1) = F.map (·.1) := by
  rw [List.map_set]
  apply List.ext_getElem?
  intro i
  by_cases hi : i = j
  ·
   subst hi
   rw [List.getElem?_set_self (by simpa using hjl), List.getElem?_map, hp]
   rfl
  · rw [List.getElem?_set_ne (fun e => hi e.symm)]
 refine ⟨by rw [hm]; exact h.1.keep hk (fun e => htr j e.symm), fun i q hq => ?_⟩
 by_cases hi : i = j
 ·
  subst hi
  rw [List.getElem?_set_self hjl] at hq
  injection hq with hq
  subst hq
  exact ho
 ·
  rw [List.getElem?_set_ne (fun e => hi e.symm)] at hq
  exact (h.2 i q hq).keep hk (by intro hh; omega)
theorem Wr.set {α : Type} {X : Int → Nat → List α} {F F' : List (Sl × List α)} {m : Nat → Int} {j : Nat} {p : Sl × List α} (h : Wr X F F' m j) (hp : F'[j]? = some p) (ys : List α) : Wr X F (F'.set j (p.1, ys)) m j := by
 have hjl := (List.getElem?_eq_some_iff.1 hp).1
 refine ⟨?_, fun i q hi hq => ?_⟩
 ·
  rw [← h.sl, List.map_set]
  apply List.ext_getElem?
  intro i
  by_cases hi : i = j
  ·
   subst hi
   rw [List.getElem?_set_self (by simpa using hjl), List.getElem?_map, hp]
   rfl
  · rw [List.getElem?_set_ne (fun e => hi e.symm)]
 ·
  rw [List.getElem?_set_ne (by omega)] at hq
  exact h.wr i q hi hq
theorem Wr.succ {α : Type} {X : Int → Nat → List α} {F F' : List (Sl × List α)} {m : Nat → Int} {j : Nat} {p : Sl × List α} (h : Wr X F F' m j) (hp : F'[j]? = some p) (hx : p.2 = X (m j) p.1.n) : Wr X F F' m (j + 1) :=
 ⟨h.sl, fun i q hi hq => by
  by_cases he : i = j
  · subst he; rw [hp] at hq; injection hq with hq; subst hq; exact hx
  · exact h.wr i q (by omega) hq⟩
theorem take_set_succ {α : Type} {xs : List α} {k : Nat} (hk : k < xs.length) (x : α) : (xs.set k x).take (k + 1) = xs.take k ++ [x] := by
 rw [List.take_succ_eq_append_getElem (by simpa using hk), List.take_set, List.getElem_set_self]
 congr 1
 rw [List.set_eq_of_length_le (by rw [List.length_take]; exact Nat.min_le_left _ _)]
theorem digs_succ (m : Int) (k : Nat) : digs m (k + 1) = digs m k ++ [dig m k] := by unfold digs; rw [List.range_succ, List.map_append]; rfl
theorem enc_dig (m : Int) (n : Nat) : (digs m n).map (Value.int .u8) = fcells (fD m) 0 (n * 1) := by
 unfold digs fcells fD
 rw [List.map_map, Nat.mul_one]
 apply List.map_congr_left
 intro j _
 simp
theorem Fz.of_u8 {w : World} {own : Nat → Nat} {t : Nat} {z : Sl} {m : Int} (h : Ow u8K 5 w own t z (digs m z.n)) : Fz w own t 5 1 (fD m) z := by
 have h1 := Kd.own_of_R h
 rw [digs_len] at h1
 have e1 : encs (Value.int .u8) (digs m z.n) = fcells (fD m) 0 (z.n * 1) := by rw [← enc_dig]; rfl
 rw [e1] at h1
 obtain ⟨y, hy, hn, hf⟩ := Fz.of_own (own := own) (t := t) h1 (fun k hk => (ow_blk h k hk).1)
 rw [enc_inj hy]
 exact hf
theorem Fz.of_mcK {w : World} {own : Nat → Nat} {t : Nat} {z : Sl} {m : Int} (h : Ow mcK 35 w own t z (List.replicate z.n (mkM m))) : Fz w own t 35 5 (fM m) z := by
 have HB := fun k hk => (ow_blk h k hk).1
 obtain ⟨h0, inner, ho, hr⟩ := h
 have e1 : inner = fcells (fM m) 0 (z.n * 5) := by
  apply List.ext_getElem?
  intro i
  have hl : inner.length = z.n * 5 := by rw [hr.1, List.length_replicate]; rfl
  by_cases hi : i < z.n * 5
  ·
   rw [fcells_at hi, Nat.zero_add]
   have hq : i / 5 < z.n := by omega
   have h4 : (inner.drop (i / 5 * 5)).take 5 = (mkM m).cells := hr.2 (i / 5) (mkM m) (by rw [List.getElem?_replicate, if_pos hq])
   have h5 := congrArg (fun l => l[i % 5]?) h4
   simp only [List.getElem?_take_of_lt (Nat.mod_lt i (by decide : 0 < 5)), List.getElem?_drop] at h5
   rw [show i / 5 * 5 + i % 5 = i by omega] at h5
   rw [h5, show fM m i = fM m (i / 5 * 5 + i % 5) by congr 1; omega, fM_at]
   have : i % 5 < 5 := Nat.mod_lt _ (by decide)
   generalize i % 5 = r at this
   rcases r with _ | _ | _ | _ | _ | r <;> first | rfl | omega
  · rw [List.getElem?_eq_none (by omega), List.getElem?_eq_none (by rw [fcells_len]; omega)]
 rw [e1, List.length_replicate] at ho
 obtain ⟨y, hy, hn, hf⟩ := Fz.of_own (own := own) (t := t) ho HB
 rw [enc_inj hy]
 exact hf
theorem Fz.of_rcK {w : World} {own : Nat → Nat} {t : Nat} {z : Sl} {m : Int} (h : Ow rcK 44 w own t z (List.replicate z.n (mkR m))) : Fz w own t 44 4 (fR m) z := by
 have HB := fun k hk => (ow_blk h k hk).1
 obtain ⟨h0, inner, ho, hr⟩ := h
 have e1 : inner = fcells (fR m) 0 (z.n * 4) := by
  apply List.ext_getElem?
  intro i
  have hl : inner.length = z.n * 4 := by rw [hr.1, List.length_replicate]; rfl
  by_cases hi : i < z.n * 4
  ·
   rw [fcells_at hi, Nat.zero_add]
   have hq : i / 4 < z.n := by omega
   have h4 : (inner.drop (i / 4 * 4)).take 4 = (mkR m).cells := hr.2 (i / 4) (mkR m) (by rw [List.getElem?_replicate, if_pos hq])
   have h5 := congrArg (fun l => l[i % 4]?) h4
   simp only [List.getElem?_take_of_lt (Nat.mod_lt i (by decide : 0 < 4)), List.getElem?_drop] at h5
   rw [show i / 4 * 4 + i % 4 = i by omega] at h5
   rw [h5, show fR m i = fR m (i / 4 * 4 + i % 4) by congr 1; omega, fR_at]
   have : i % 4 < 4 := Nat.mod_lt _ (by decide)
   generalize i % 4 = r at this
   rcases r with _ | _ | _ | _ | _ | r <;> first | rfl | omega
  · rw [List.getElem?_eq_none (by omega), List.getElem?_eq_none (by rw [fcells_len]; omega)]
 rw [e1, List.length_replicate] at ho
 obtain ⟨y, hy, hn, hf⟩ := Fz.of_own (own := own) (t := t) ho HB
 rw [enc_inj hy]
 exact hf
end Go.Proofs.Ytpflenaoplblkaa.PaXa
end
