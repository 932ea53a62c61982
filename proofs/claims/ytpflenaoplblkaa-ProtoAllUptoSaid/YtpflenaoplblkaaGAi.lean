import Derived.Deep.Cut
import Derived.Test.YtpflenaoplblkaaGAh
section
namespace Go.Proofs.Ytpflenaoplblkaa.PaC
open Go.RowKit YtpflenaoplblkaaW.PrintWords YtpflenaoplblkaaW.PrintLast ProA ProB ProC ProI ProD ProG ProJ ProK ProL ProM ProN ProO ProP ProQ ProR ProU ProZ ProBb PaA
open ProH (msgTab repTab ba)
open PaB
set_option linter.unusedVariables false
set_option linter.unusedSimpArgs false
def hasB (ps : List PS) (a : Int) : Bool := (ps.map rp).any fun p => decide (p.f1 = a)
theorem has_l0 (l : List PProtoAll.S129) (a : Int) (hl : l.length ≤ 1000) : ∀ (k i : Nat), i ≤ l.length → l.length - i < k → PProtoAll.arcaderef12_has.l0 k l a (i : Int) = some ((l.drop i).any fun p => decide (p.f1 = a)) := by
 intro k
 induction k with
 | zero => intro i _ h; omega
 | succ k ih =>
  intro i hi hk
  simp only [PProtoAll.arcaderef12_has.l0]
  by_cases h : i < l.length
  ·
   have e1 : ((i : Int) < (l.length : Int)) := by omega
   have e2 : wrap64 ((i : Int) + 1) = ((i + 1 : Nat) : Int) := by rw [IntWalk.wrap64_in] <;> omega
   have e3 : PProtoAll.rd_T129 l (i : Int) = l[i] := by
    unfold PProtoAll.rd_T129
    rw [Int.toNat_natCast, List.getD_eq_getElem?_getD, List.getElem?_eq_getElem h]
    rfl
   rw [if_pos e1, if_pos (by omega), e2, e3, List.drop_eq_getElem_cons h, List.any_cons]
   by_cases hf : l[i].f1 = a
   · rw [if_pos hf]; simp [hf]
   · rw [if_neg hf, ih (i + 1) (by omega) (by omega)]; simp [hf]
  ·
   have e1 : ¬ ((i : Int) < (l.length : Int)) := by omega
   rw [if_neg e1, List.drop_of_length_le (by omega)]
   rfl
theorem has_any (ps : List PS) (a : Int) (A : Option Addr) (c : Nat) (w : World) (hl : ps.length ≤ 1000) (hx : Kd.C PProtoAll.k129 w A ps.length (ps.map rp)) (hc : ps.length ≤ c) :
  Calls Try.prog 81 #[.slice A ps.length c, .int .u8 a] w fun e w' => e = .returned (.bool (hasB ps a)) ∧ Drawn0 w w' := by
 have hlm : (ps.map rp).length = ps.length := by simp
 have h := PProtoAll.arcaderef12_has.calls (ps.length + 1) A c (ps.map rp) a (hasB ps a) w (by rw [hlm]; exact hx) (by rw [hlm]; exact hc) (by
  have := has_l0 (ps.map rp) a (by simp; omega) (ps.length + 1) 0 (by omega) (by simp)
  exact this)
 rw [hlm] at h
 exact h
def uncov (ps : List PS) (F : Flds) : Bool := (hasB ps 84 || decide (F.tn = 0)) && ((hasB ps 78 || decide (F.n = 0)) && ((hasB ps 77 || decide (F.m = 0)) && ((hasB ps 65 || F.name.toList.isEmpty) && (hasB ps 68 || decide (F.data.length = 0)))))
def refE (ps : List PS) (F : Flds) : Except Int (List Int) := if uncov ps F then match encParts ps F with | none => .error 123 | some body => .ok (beB ((1 + body.length : Nat) : Int) 4 ++ F.kind :: body) else .error 123
theorem bdrews {B : Nat} {w a : World} (h : Below B w a) (n : Nat) : Below B w (a.drewN n) := h.trans (bdrew _ _ _)
theorem tail_out {w W : World} {ps : List PS} {F : Flds} {v : Value} {bs : List Int} (hu : uncov ps F = true) (hb : Below w.heap.size w W) (he : encParts ps F = some bs) (ho : Own W w.heap.size (fun _ => True) v (beB ((1 + bs.length : Nat) : Int) 4 ++ F.kind :: bs)) : EncPost w (refE ps F) (.returned (.tuple #[v, .int .i64 0])) W := by
 refine ⟨v, 0, rfl, hb, ?_⟩
 unfold refE
 rw [hu, if_pos rfl, he]
 exact ⟨rfl, ho⟩
theorem tail_no {w W : World} {ps : List PS} {F : Flds} (hb : Below w.heap.size w W) (he : encParts ps F = none) : EncPost w (refE ps F) (.returned (.tuple #[.slice none 0 0, .int .i64 123])) W := by
 refine ⟨_, 123, rfl, hb, ?_⟩
 unfold refE
 rw [he]
 split
 · rename_i h; split at h <;> cases h
 · rename_i h; split at h <;> (injection h with h; exact ⟨h, rfl⟩)
theorem unc_no {w W : World} {ps : List PS} {F : Flds} (hb : Below w.heap.size w W) (hu : uncov ps F = false) : EncPost w (refE ps F) (.returned (.tuple #[.slice none 0 0, .int .i64 123])) W := by
 refine ⟨_, 123, rfl, hb, ?_⟩
 unfold refE
 rw [hu, if_neg (by simp)]
 exact ⟨rfl, rfl⟩
structure ESt (w w2 wr : World) (ps : List PS) (F : Flds) (i : Nat) (bv : Value) (bs : List Int) : Prop where
 below : Below w2.heap.size w2 wr
 own : Own wr w2.heap.size (fun _ => True) bv bs
 eq : encParts ps F = (encParts (ps.drop i) F).map (bs ++ ·)
 len : bs.length ≤ i * (F.data.length + 21)
theorem grown_old {wr w12 w13 : World} {A : Option Addr} {bs ys : List Int} {v12 : Value} {ok : Nat → Prop} (h : BytesAt wr A bs.length bs) (hb : Below wr.heap.size wr w12) (ho : Own w12 wr.heap.size ok v12 ys) (hg : w12.grownBy w13 v12.ownBlock) : BytesAt w13 A bs.length bs := by
 obtain ⟨inner, hown⟩ := Kd.R_own ho
 have hlow : Below wr.heap.size wr w13 := hb.grown hg hb.size (fun k hk => own_base hown k hk)
 exact BytesAt.below (B := 0) h hlow
set_option maxHeartbeats 8000000 in
set_option maxRecDepth 100000 in
theorem encode_open (ps : List PS) (F : Flds) (A LA : Option Addr) (c lc : Nat) (w : World) (h84 : hasB ps 84 = true) (h78 : hasB ps 78 = false) (h77 : hasB ps 77 = false) (h65 : hasB ps 65 = true) (h68 : hasB ps 68 = true)
  (hps3 : ps.length ≤ 3) (hpok : ∀ p ∈ ps, pok p) (hsm : ∀ p ∈ ps, psmall p) (hl : Kd.C PProtoAll.k129 w LA ps.length (ps.map rp)) (hlc : ps.length ≤ lc) (hx : BytesAt w A F.data.length F.data) (hd : F.data.length ≤ 1000000000) (hn : F.name.size ≤ 1000000000) (hk0 : 0 ≤ F.kind) (hk1 : F.kind < 256) :
  Calls Try.prog 62 #[.agg #[.int .i64 F.kind, .int .i64 F.tn, .int .i64 F.n, .int .i64 F.m, .string F.name, .slice A F.data.length c], .slice LA ps.length lc] w (EncPost w (refE ps F)) := by
 have HX := Lib.hid hx
 have HL := Lib.hid hl
 clear hx hl
 by_cases zn : F.n = 0
 rotate_left
 ·
  have dn : (F.n != 0) = true := by rw [bne_iff_ne]; exact zn
  have hu : uncov ps F = false := by simp [uncov, h84, h78, h77, h65, h68, zn]
  have HU := Lib.hid hu
  clear hu
  go_enter Try.func62, Try.ntmps62
  go_wp2_with (first | (go_at_call 81; refine Calls.mono (has_any ps _ LA lc _ (by omega) (Kd.C_below HL.out ?hb) hlc) ?_; (case hb => first | exact ba _ | exact bdrews (ba _) _ | exact bdrews (bdrews (ba _) _) _ | exact bdrews (bdrews (bdrews (ba _) _) _) _ | exact bdrews (bdrews (bdrews (bdrews (ba _) _) _) _) _); rintro e w' ⟨rfl, hd'⟩; obtain ⟨nn, rfl⟩ := hd'.out))
  go_ret2
  refine unc_no ?_ HU.out
  repeat (with_reducible refine bdrews ?_ _)
  exact ba _
 have en : (F.n != 0) = false := by rw [zn]; rfl
 by_cases zm : F.m = 0
 rotate_left
 ·
  have dm : (F.m != 0) = true := by rw [bne_iff_ne]; exact zm
  have hu : uncov ps F = false := by simp [uncov, h84, h78, h77, h65, h68, zm]
  have HU := Lib.hid hu
  clear hu
  go_enter Try.func62, Try.ntmps62
  go_wp2_with (first | (go_at_call 81; refine Calls.mono (has_any ps _ LA lc _ (by omega) (Kd.C_below HL.out ?hb) hlc) ?_; (case hb => first | exact ba _ | exact bdrews (ba _) _ | exact bdrews (bdrews (ba _) _) _ | exact bdrews (bdrews (bdrews (ba _) _) _) _ | exact bdrews (bdrews (bdrews (bdrews (ba _) _) _) _) _); rintro e w' ⟨rfl, hd'⟩; obtain ⟨nn, rfl⟩ := hd'.out))
  go_ret2
  refine unc_no ?_ HU.out
  repeat (with_reducible refine bdrews ?_ _)
  exact ba _
 have em : (F.m != 0) = false := by rw [zm]; rfl
 have hunc : uncov ps F = true := by simp [uncov, h84, h78, h77, h65, h68, zn, zm]
 have HUNC := Lib.hid hunc
 clear hunc
 have Hzn := Lib.hid zn
 clear zn
 have Hzm := Lib.hid zm
 clear zm
 go_enter Try.func62, Try.ntmps62
 go_upto_region 8 with (first | (go_at_call 81; refine Calls.mono (has_any ps _ LA lc _ (by omega) (Kd.C_below HL.out ?hb) hlc) ?_; (case hb => first | exact ba _ | exact bdrews (ba _) _ | exact bdrews (bdrews (ba _) _) _ | exact bdrews (bdrews (bdrews (ba _) _) _) _ | exact bdrews (bdrews (bdrews (bdrews (ba _) _) _) _) _); rintro e w' ⟨rfl, hd'⟩; obtain ⟨nn, rfl⟩ := hd'.out))
 generalize hW : World.drewN _ _ = w2
 have hb2 : Below w.heap.size w w2 := by
  rw [← hW]
  repeat (with_reducible refine bdrews ?_ _)
  exact ba _
 have hg2 : Blk w2 w.heap.size #[.int .i64 F.kind, .int .i64 F.tn, .int .i64 F.n, .int .i64 F.m, .string F.name, .slice A F.data.length c] 118 := by
  rw [← hW]
  exact blkNew rfl
 clear hW
 have HB2 := Lib.hid hb2
 have HG2 := Lib.hid hg2
 have hs2 := hb2.size
 have hlt2 := Blk.lt hg2
 have HC2 := Lib.hid (Kd.C_below HL.out hb2)
 clear hb2 hg2
 go_wp2_with fail
 go_loopw [11, 12] (fun bv iv wr => ∃ (i : Nat) (bs : List Int), i ≤ ps.length ∧ iv = .int .i64 (i : Int) ∧ Hid (ESt w w2 wr ps F i bv bs)) (fun _ iv _ => ps.length - (intOf iv).toNat)
 case atStart => exact ⟨0, [], by omega, rfl, Lib.hid ⟨Below.refl _ _, Kd.R_nil _ _ _ _ _, by simp, by simp⟩⟩
 case round =>
  obtain ⟨i, bs, hi, rfl, HS⟩ := hrel
  by_cases hlt : i < ps.length
  ·
   have dl : decide ((i : Int) < (ps.length : Int)) = true := by simp; omega
   obtain ⟨ad, rfl, k0, k1, k2, k3⟩ := PProtoAll.at_T129 (Kd.C_below HC2.out HS.out.below) (i : Int) (by omega) (by omega)
   have e3 : PProtoAll.rd_T129 (ps.map rp) (i : Int) = rp ps[i] := by
    unfold PProtoAll.rd_T129
    rw [Int.toNat_natCast, List.getD_eq_getElem?_getD, List.getElem?_map, List.getElem?_eq_getElem hlt]
    rfl
   rw [e3] at k0 k1 k2 k3
   rw [Int.toNat_natCast] at k0 k1 k2 k3
   have hgr := Blk.below HG2.out HS.out.below
   have HK := Lib.hid (And.intro k0 (And.intro k1 (And.intro k2 (And.intro k3 (And.intro (Blk.cell (i := 0) hgr rfl) (And.intro (Blk.cell (i := 1) hgr rfl) (And.intro (Blk.cell (i := 2) hgr rfl) (And.intro (Blk.cell (i := 3) hgr rfl) (And.intro (Blk.cell (i := 4) hgr rfl) (Blk.cell (i := 5) hgr rfl))))))))))
   have HPOK := Lib.hid (hpok ps[i] (List.getElem_mem hlt))
   have HXD : Hid (BytesAt wr.drew A F.data.length F.data) := Lib.hid (BytesAt.below (B := 0) HX.out (HB2.out.trans ((HS.out.below.trans (Below.drew (Below.refl _ _))).mono hs2)))
   have hlen := HS.out.len
   have hdr : ps.drop i = ps[i] :: ps.drop (i + 1) := List.drop_eq_getElem_cons hlt
   have HDR := Lib.hid hdr
   have hwl : fitsS ps[i] F = true → (wrS ps[i] F).length ≤ F.data.length + 21 := wrS_len ps[i] F _ rfl (hsm ps[i] (List.getElem_mem hlt))
   have HWL := Lib.hid hwl
   clear k0 k1 k2 k3 hgr e3 hdr hwl
   go_wp2_with fail
   refine start_ (n := 11) (S := fun w' => w'.cell? (ad.add (i * 4)) = some (.int .u8 (rp ps[i]).f0) ∧ w'.cell? ⟨(ad.add (i * 4)).block, (ad.add (i * 4)).off + 1, none⟩ = some (.int .u8 (rp ps[i]).f1) ∧ w'.cell? ⟨(ad.add (i * 4)).block, (ad.add (i * 4)).off + 2, none⟩ = some (.int .i64 (rp ps[i]).f2) ∧ w'.cell? ⟨(ad.add (i * 4)).block, (ad.add (i * 4)).off + 3, none⟩ = some (.int .i64 (rp ps[i]).f3) ∧ w'.cell? ⟨w.heap.size, 0, none⟩ = some (.int .i64 F.kind) ∧ w'.cell? ⟨w.heap.size, 1, none⟩ = some (.int .i64 F.tn) ∧ w'.cell? ⟨w.heap.size, 2, none⟩ = some (.int .i64 F.n) ∧ w'.cell? ⟨w.heap.size, 3, none⟩ = some (.int .i64 F.m) ∧ w'.cell? ⟨w.heap.size, 4, none⟩ = some (.string F.name) ∧ w'.cell? ⟨w.heap.size, 5, none⟩ = some (.slice A F.data.length c)) (ds := [5]) #[false, false, false, false, false, false, false, false, false, false, false] (by kernel_rfl) rfl rfl HK.out (fun hHeld => ?_)
   refine pu_ (i := 0) (N := some 77) (v := ?_) (a' := ?_) rfl rfl (by kernel_rfl) (fun _ _ _ h => h) (by rfl) ?_ ?_ ?_
   rotate_left
   · (intro w'; go_simp; with_reducible rfl)
   rotate_left
   · (simp only [put_s, List.set, i64_w, i32_w]; rfl)
   refine pu_ (i := 1) (N := some 78) (v := ?_) (a' := ?_) rfl rfl (by kernel_rfl) (fun _ _ _ h => h) (by rfl) ?_ ?_ ?_
   rotate_left
   · (intro w'; go_simp; with_reducible rfl)
   rotate_left
   · (simp only [put_s, List.set, i64_w, i32_w]; rfl)
   refine pu_ (i := 2) (N := some 79) (v := ?_) (a' := ?_) rfl rfl (by kernel_rfl) (fun _ _ _ h => h) (by rfl) ?_ ?_ ?_
   rotate_left
   · (intro w'; go_simp; with_reducible rfl)
   rotate_left
   · (simp only [put_s, List.set, i64_w, i32_w]; rfl)
   refine tk_ (i := 3) (N := some 80) (v := ?_) (a' := ?_) rfl rfl (by kernel_rfl) (fun _ _ _ h => h) (by rfl) ?_ hHeld ?_ ?_
   rotate_left
   · (intro w' s0; go_simp; with_reducible rfl)
   rotate_left
   · (simp only [put_s, List.set, i64_w, i32_w]; rfl)
   refine tk_ (i := 4) (N := some 81) (v := ?_) (a' := ?_) rfl rfl (by kernel_rfl) (fun _ _ _ h => h) (by rfl) ?_ hHeld ?_ ?_
   rotate_left
   · (intro w' s0; go_simp; with_reducible rfl)
   rotate_left
   · (simp only [put_s, List.set, i64_w, i32_w]; rfl)
   refine la_ (i := 5) (N := some 82) rfl rfl (by kernel_rfl) (by decide) (fun K hK => ?_)
   refine goesV #[] Try.func82 (by kernel_rfl) rfl #[.agg #[.int .u8 (rp ps[i]).f0, .int .u8 (rp ps[i]).f1, .int .i64 (rp ps[i]).f2, .int .i64 (rp ps[i]).f3], .agg #[.int .i64 F.kind, .int .i64 F.tn, .int .i64 F.n, .int .i64 F.m, .string F.name, .slice A F.data.length c]] (by rfl) rfl rfl rfl (by simp [Act.eval]) ?_
   refine Calls.mono (put_ok ps[i] F A c _ HPOK.out HXD.out hd hn) ?_
   rintro e w9 ⟨v9, rfl, hb9, ho9⟩
   have HB9 := Lib.hid (Below.trans (Below.drew (Below.refl wr.heap.size wr)) (hb9.mono (Nat.le_refl _)))
   have HO9 := Lib.hid ho9
   clear hb9 ho9
   refine .inl ⟨_, rfl, ?_⟩
   refine hK.out _ _ ?_
   clear hK K
   refine norm_ (a' := ?_) ?_ ?_
   rotate_left
   ·
    show Act.put _ (some 82) _ = _
    simp only [put_s, List.set, i64_w, i32_w]
    rfl
   refine pu_ (i := 6) (N := some 76) (v := ?_) (a' := ?_) rfl rfl (by kernel_rfl) (fun _ _ _ h => h) (by rfl) ?_ ?_ ?_
   rotate_left
   · (intro w'; go_simp; with_reducible rfl)
   rotate_left
   · (simp only [put_s, List.set, i64_w, i32_w]; rfl)
   refine pu_ (i := 7) (N := some 83) (v := ?_) (a' := ?_) rfl rfl (by kernel_rfl) (fun _ _ _ h => h) (by rfl) ?_ ?_ ?_
   rotate_left
   · (intro w'; go_simp; with_reducible rfl)
   rotate_left
   · (simp only [put_s, List.set, i64_w, i32_w]; rfl)
   refine pu_ (i := 8) (N := some 84) (v := ?_) (a' := ?_) rfl rfl (by kernel_rfl) (fun _ _ _ h => h) (by rfl) ?_ ?_ ?_
   rotate_left
   · (intro w'; go_simp; with_reducible rfl)
   rotate_left
   · (simp only [put_s, List.set, i64_w, i32_w]; rfl)
   refine pu_ (i := 9) (N := some 13) (v := ?_) (a' := ?_) rfl rfl (by kernel_rfl) (fun _ _ _ h => h) (by rfl) ?_ ?_ ?_
   rotate_left
   · (intro w'; go_simp; with_reducible rfl)
   rotate_left
   · (simp only [put_s, List.set, i64_w, i32_w]; rfl)
   refine pu_ (i := 10) (N := some 14) (v := ?_) (a' := ?_) rfl rfl (by kernel_rfl) (fun _ _ _ h => h) (by rfl) ?_ ?_ ?_
   rotate_left
   · (intro w'; go_simp; with_reducible rfl)
   rotate_left
   · (simp only [put_s, List.set, i64_w, i32_w]; rfl)
   refine done_ (by kernel_rfl) ?_
   cases hf : fitsS ps[i] F with
   | true =>
    rw [hf] at HO9
    have HFT := Lib.hid hf
    have hl9 := HWL.out hf
    clear hf
    obtain ⟨A10, c10, hv10, _, hr10⟩ := Kd.R_reads (HO9.out rfl)
    subst hv10
    have HR10 := Lib.hid hr10
    clear hr10
    have hbig : i * (F.data.length + 21) ≤ 3000000100 := by
     have h3 : i ≤ 3 := by omega
     calc i * (F.data.length + 21) ≤ 3 * (F.data.length + 21) := Nat.mul_le_mul_right _ h3
      _ ≤ 3000000100 := by omega
    go_wp2_with (at_builtin; refine app_bytes (w0 := w2) w2.heap.size rfl (.tmp 87) (.tmp 88) rfl u11 bs (wrS ps[i] F) A10 _ c10 (fun _ => True) rfl rfl ?ho HR10.out (fun _ _ => trivial) ?hb ?hz (by omega) ?_; (case ho => exact Kd.R_below HS.out.own HB9.out); (case hb => exact HS.out.below.trans (HB9.out.mono HS.out.below.size)); (case hz => exact Nat.le_trans HS.out.below.size HB9.out.size); intro v11 w11 ho11 hb11 hg11 hat11; have HO11 := Lib.hid ho11; have HB11 := Lib.hid hb11; clear ho11 hb11 hg11 hat11)
    refine ⟨⟨i + 1, bs ++ wrS ps[i] F, by omega, by go_num, Lib.hid ⟨HB11.out, HO11.out, ?_, ?_⟩⟩, by simp [intOf]; omega⟩
    ·
     rw [HS.out.eq, HDR.out]
     simp only [encParts]
     rw [if_pos HFT.out, Option.map_map]
     congr 1
     funext x
     simp
    ·
     rw [List.length_append, Nat.succ_mul]
     omega
   | false =>
    rw [hf] at HO9
    have HFT := Lib.hid hf
    clear hf
    go_wp2_with fail
    go_ret2
    refine tail_no (HB2.out.trans ((HS.out.below.trans (HB9.out.mono HS.out.below.size)).mono hs2)) ?_
    rw [HS.out.eq, HDR.out]
    simp only [encParts]
    rw [if_neg (by rw [HFT.out]; simp)]
    rfl
  ·
   have hi' : i = ps.length := by omega
   subst hi'
   have di : decide ((ps.length : Int) < (ps.length : Int)) = false := by simp
   have hlen := HS.out.len
   have hbig : ps.length * (F.data.length + 21) ≤ 3000000100 := by
    calc ps.length * (F.data.length + 21) ≤ 3 * (F.data.length + 21) := Nat.mul_le_mul_right _ hps3
     _ ≤ 3000000100 := by omega
   obtain ⟨A10, c10, hv10, _, hr10⟩ := Kd.R_reads HS.out.own
   subst hv10
   have HR10 := Lib.hid hr10
   have HBW := Lib.hid (HB2.out.trans (HS.out.below.mono hs2))
   have hsw := HBW.out.size
   have hee : encParts ps F = some bs := by
    rw [HS.out.eq, List.drop_of_length_le (Nat.le_refl _)]
    simp [encParts]
   have HEE := Lib.hid hee
   have HGW := Lib.hid (Blk.below HG2.out HS.out.below)
   have hcell := Blk.cell (i := 0) HGW.out rfl
   clear hr10 hee
   go_wp2_with fail
   refine (digits_ok ((1 : Int) + (bs.length : Int)) 4 (by omega) (by omega) (by omega) wr).mono ?_
   rintro e w12 ⟨v12, rfl, ho12, hb12⟩
   have HO12 := Lib.hid ho12
   have HB12 := Lib.hid hb12
   have hs12 := hb12.size
   have hc12 := Blk.cell (i := 0) (Blk.below HGW.out hb12) rfl
   have HL4 := Lib.hid (beB_len ((1 : Int) + (bs.length : Int)) 4)
   clear ho12 hb12 hcell
   go_wp2_with (first
    | ((with_reducible refine gate_builtin (b := .append) (xs := #[.tmp 94, .tmp 98]) rfl ?_); at_builtin; refine Kd.R_append (Kd.int .u8) (w0 := w) w.heap.size rfl (.tmp 94) (.tmp 98) 22 5 (.int .u8 0) 1 rfl Try.underlying22 info5 rfl (Nat.succ_pos 0) (Nat.succ_pos 0) v12 (beB ((1 : Int) + (bs.length : Int)) 4) F.kind [.int .u8 F.kind] (fun _ => True) (fun _ => False) rfl rfl ?hp ?hokp (fun _ _ => trivial) ?hrow ?hbel ?hbase ?hl ?_; (case hp => rfl); (case hokp => exact fun k hk => hk.elim); (case hrow => exact Kd.R_lower HO12.out (by omega)); (case hbel => exact HBW.out.trans (HB12.out.mono hsw)); (case hbase => omega); (case hl => rw [HL4.out]; omega); intro v13 w13 hr13 hb13 hg13 hat13; have HR13 := Lib.hid hr13; have HB13 := Lib.hid hb13; have HG13 := Lib.hid hg13; clear hr13 hb13 hg13 hat13)
    | ((with_reducible refine gate_builtin (b := .append) (xs := #[.tmp 100, .tmp 101]) rfl ?_); at_builtin; refine app_bytes (w0 := w) w.heap.size rfl (.tmp 100) (.tmp 101) rfl v13 (beB ((1 : Int) + (bs.length : Int)) 4 ++ [F.kind]) bs A10 bs.length c10 (fun _ => True) rfl rfl ?ho ?hr (fun _ _ => trivial) ?hbel ?hbase ?hl ?_; (case ho => exact HR13.out); (case hr => exact grown_old HR10.out HB12.out HO12.out HG13.out); (case hbel => exact HB13.out); (case hbase => exact HB13.out.size); (case hl => rw [List.length_append, HL4.out]; simp; omega); intro v14 w14 ho14 hb14 hg14 hat14; have HO14 := Lib.hid ho14; have HB14 := Lib.hid hb14; clear ho14 hb14 hg14 hat14))
   go_ret2
   refine tail_out HUNC.out HB14.out HEE.out ?_
   have h := HO14.out
   rw [List.append_assoc] at h
   exact h
set_option maxHeartbeats 8000000 in
set_option maxRecDepth 100000 in
theorem encode_n (ps : List PS) (F : Flds) (A LA : Option Addr) (c lc : Nat) (w : World) (h84 : hasB ps 84 = false) (h78 : hasB ps 78 = true) (h77 : hasB ps 77 = false) (h65 : hasB ps 65 = false) (h68 : hasB ps 68 = false)
  (hps3 : ps.length ≤ 3) (hpok : ∀ p ∈ ps, pok p) (hsm : ∀ p ∈ ps, psmall p) (hl : Kd.C PProtoAll.k129 w LA ps.length (ps.map rp)) (hlc : ps.length ≤ lc) (hx : BytesAt w A F.data.length F.data) (hd : F.data.length ≤ 1000000000) (hn : F.name.size ≤ 1000000000) (hk0 : 0 ≤ F.kind) (hk1 : F.kind < 256) :
  Calls Try.prog 62 #[.agg #[.int .i64 F.kind, .int .i64 F.tn, .int .i64 F.n, .int .i64 F.m, .string F.name, .slice A F.data.length c], .slice LA ps.length lc] w (EncPost w (refE ps F)) := by
 have HX := Lib.hid hx
 have HL := Lib.hid hl
 clear hx hl
 by_cases ztn : F.tn = 0
 rotate_left
 ·
  have dtn : (F.tn != 0) = true := by rw [bne_iff_ne]; exact ztn
  have hu : uncov ps F = false := by simp [uncov, h84, h78, h77, h65, h68, ztn]
  have HU := Lib.hid hu
  clear hu
  go_enter Try.func62, Try.ntmps62
  go_wp2_with (first | (go_at_call 81; refine Calls.mono (has_any ps _ LA lc _ (by omega) (Kd.C_below HL.out ?hb) hlc) ?_; (case hb => first | exact ba _ | exact bdrews (ba _) _ | exact bdrews (bdrews (ba _) _) _ | exact bdrews (bdrews (bdrews (ba _) _) _) _ | exact bdrews (bdrews (bdrews (bdrews (ba _) _) _) _) _); rintro e w' ⟨rfl, hd'⟩; obtain ⟨nn, rfl⟩ := hd'.out))
  go_ret2
  refine unc_no ?_ HU.out
  repeat (with_reducible refine bdrews ?_ _)
  exact ba _
 have etn : (F.tn != 0) = false := by rw [ztn]; rfl
 by_cases zm : F.m = 0
 rotate_left
 ·
  have dm : (F.m != 0) = true := by rw [bne_iff_ne]; exact zm
  have hu : uncov ps F = false := by simp [uncov, h84, h78, h77, h65, h68, zm]
  have HU := Lib.hid hu
  clear hu
  go_enter Try.func62, Try.ntmps62
  go_wp2_with (first | (go_at_call 81; refine Calls.mono (has_any ps _ LA lc _ (by omega) (Kd.C_below HL.out ?hb) hlc) ?_; (case hb => first | exact ba _ | exact bdrews (ba _) _ | exact bdrews (bdrews (ba _) _) _ | exact bdrews (bdrews (bdrews (ba _) _) _) _ | exact bdrews (bdrews (bdrews (bdrews (ba _) _) _) _) _); rintro e w' ⟨rfl, hd'⟩; obtain ⟨nn, rfl⟩ := hd'.out))
  go_ret2
  refine unc_no ?_ HU.out
  repeat (with_reducible refine bdrews ?_ _)
  exact ba _
 have em : (F.m != 0) = false := by rw [zm]; rfl
 by_cases zname : F.name.toList.isEmpty = true
 rotate_left
 ·
  simp only [Bool.not_eq_true] at zname
  have hu : uncov ps F = false := by simp [uncov, h84, h78, h77, h65, h68, zname]
  have HU := Lib.hid hu
  clear hu
  go_enter Try.func62, Try.ntmps62
  go_wp2_with (first | (go_at_call 81; refine Calls.mono (has_any ps _ LA lc _ (by omega) (Kd.C_below HL.out ?hb) hlc) ?_; (case hb => first | exact ba _ | exact bdrews (ba _) _ | exact bdrews (bdrews (ba _) _) _ | exact bdrews (bdrews (bdrews (ba _) _) _) _ | exact bdrews (bdrews (bdrews (bdrews (ba _) _) _) _) _); rintro e w' ⟨rfl, hd'⟩; obtain ⟨nn, rfl⟩ := hd'.out))
  go_ret2
  refine unc_no ?_ HU.out
  repeat (with_reducible refine bdrews ?_ _)
  exact ba _
 have ename : F.name.toList = [] := by simpa using zname
 by_cases zdata : F.data.length = 0
 rotate_left
 ·
  have ddata : decide ((F.data.length : Int) > 0) = true := by simp; omega
  have ddata2 : decide (0 < F.data.length) = true := by simp; omega
  have hu : uncov ps F = false := by simp [uncov, h84, h78, h77, h65, h68, zdata]
  have HU := Lib.hid hu
  clear hu
  go_enter Try.func62, Try.ntmps62
  go_wp2_with (first | (go_at_call 81; refine Calls.mono (has_any ps _ LA lc _ (by omega) (Kd.C_below HL.out ?hb) hlc) ?_; (case hb => first | exact ba _ | exact bdrews (ba _) _ | exact bdrews (bdrews (ba _) _) _ | exact bdrews (bdrews (bdrews (ba _) _) _) _ | exact bdrews (bdrews (bdrews (bdrews (ba _) _) _) _) _); rintro e w' ⟨rfl, hd'⟩; obtain ⟨nn, rfl⟩ := hd'.out))
  go_ret2
  refine unc_no ?_ HU.out
  repeat (with_reducible refine bdrews ?_ _)
  exact ba _
 have edata : decide ((F.data.length : Int) > 0) = false := by rw [zdata]; rfl
 have edata2 : decide (0 < F.data.length) = false := by rw [zdata]; rfl
 have hunc : uncov ps F = true := by simp [uncov, h84, h78, h77, h65, h68, ztn, zm, zname, zdata]
 have HUNC := Lib.hid hunc
 clear hunc
 have Hztn := Lib.hid ztn
 clear ztn
 have Hzm := Lib.hid zm
 clear zm
 have Hzname := Lib.hid zname
 clear zname
 have Hzdata := Lib.hid zdata
 clear zdata
 go_enter Try.func62, Try.ntmps62
 go_upto_region 8 with (first | (go_at_call 81; refine Calls.mono (has_any ps _ LA lc _ (by omega) (Kd.C_below HL.out ?hb) hlc) ?_; (case hb => first | exact ba _ | exact bdrews (ba _) _ | exact bdrews (bdrews (ba _) _) _ | exact bdrews (bdrews (bdrews (ba _) _) _) _ | exact bdrews (bdrews (bdrews (bdrews (ba _) _) _) _) _); rintro e w' ⟨rfl, hd'⟩; obtain ⟨nn, rfl⟩ := hd'.out))
 generalize hW : World.drewN _ _ = w2
 have hb2 : Below w.heap.size w w2 := by
  rw [← hW]
  repeat (with_reducible refine bdrews ?_ _)
  exact ba _
 have hg2 : Blk w2 w.heap.size #[.int .i64 F.kind, .int .i64 F.tn, .int .i64 F.n, .int .i64 F.m, .string F.name, .slice A F.data.length c] 118 := by
  rw [← hW]
  exact blkNew rfl
 clear hW
 have HB2 := Lib.hid hb2
 have HG2 := Lib.hid hg2
 have hs2 := hb2.size
 have hlt2 := Blk.lt hg2
 have HC2 := Lib.hid (Kd.C_below HL.out hb2)
 clear hb2 hg2
 go_wp2_with fail
 go_loopw [11, 12] (fun bv iv wr => ∃ (i : Nat) (bs : List Int), i ≤ ps.length ∧ iv = .int .i64 (i : Int) ∧ Hid (ESt w w2 wr ps F i bv bs)) (fun _ iv _ => ps.length - (intOf iv).toNat)
 case atStart => exact ⟨0, [], by omega, rfl, Lib.hid ⟨Below.refl _ _, Kd.R_nil _ _ _ _ _, by simp, by simp⟩⟩
 case round =>
  obtain ⟨i, bs, hi, rfl, HS⟩ := hrel
  by_cases hlt : i < ps.length
  ·
   have dl : decide ((i : Int) < (ps.length : Int)) = true := by simp; omega
   obtain ⟨ad, rfl, k0, k1, k2, k3⟩ := PProtoAll.at_T129 (Kd.C_below HC2.out HS.out.below) (i : Int) (by omega) (by omega)
   have e3 : PProtoAll.rd_T129 (ps.map rp) (i : Int) = rp ps[i] := by
    unfold PProtoAll.rd_T129
    rw [Int.toNat_natCast, List.getD_eq_getElem?_getD, List.getElem?_map, List.getElem?_eq_getElem hlt]
    rfl
   rw [e3] at k0 k1 k2 k3
   rw [Int.toNat_natCast] at k0 k1 k2 k3
   have hgr := Blk.below HG2.out HS.out.below
   have HK := Lib.hid (And.intro k0 (And.intro k1 (And.intro k2 (And.intro k3 (And.intro (Blk.cell (i := 0) hgr rfl) (And.intro (Blk.cell (i := 1) hgr rfl) (And.intro (Blk.cell (i := 2) hgr rfl) (And.intro (Blk.cell (i := 3) hgr rfl) (And.intro (Blk.cell (i := 4) hgr rfl) (Blk.cell (i := 5) hgr rfl))))))))))
   have HPOK := Lib.hid (hpok ps[i] (List.getElem_mem hlt))
   have HXD : Hid (BytesAt wr.drew A F.data.length F.data) := Lib.hid (BytesAt.below (B := 0) HX.out (HB2.out.trans ((HS.out.below.trans (Below.drew (Below.refl _ _))).mono hs2)))
   have hlen := HS.out.len
   have hdr : ps.drop i = ps[i] :: ps.drop (i + 1) := List.drop_eq_getElem_cons hlt
   have HDR := Lib.hid hdr
   have hwl : fitsS ps[i] F = true → (wrS ps[i] F).length ≤ F.data.length + 21 := wrS_len ps[i] F _ rfl (hsm ps[i] (List.getElem_mem hlt))
   have HWL := Lib.hid hwl
   clear k0 k1 k2 k3 hgr e3 hdr hwl
   go_wp2_with fail
   refine start_ (n := 11) (S := fun w' => w'.cell? (ad.add (i * 4)) = some (.int .u8 (rp ps[i]).f0) ∧ w'.cell? ⟨(ad.add (i * 4)).block, (ad.add (i * 4)).off + 1, none⟩ = some (.int .u8 (rp ps[i]).f1) ∧ w'.cell? ⟨(ad.add (i * 4)).block, (ad.add (i * 4)).off + 2, none⟩ = some (.int .i64 (rp ps[i]).f2) ∧ w'.cell? ⟨(ad.add (i * 4)).block, (ad.add (i * 4)).off + 3, none⟩ = some (.int .i64 (rp ps[i]).f3) ∧ w'.cell? ⟨w.heap.size, 0, none⟩ = some (.int .i64 F.kind) ∧ w'.cell? ⟨w.heap.size, 1, none⟩ = some (.int .i64 F.tn) ∧ w'.cell? ⟨w.heap.size, 2, none⟩ = some (.int .i64 F.n) ∧ w'.cell? ⟨w.heap.size, 3, none⟩ = some (.int .i64 F.m) ∧ w'.cell? ⟨w.heap.size, 4, none⟩ = some (.string F.name) ∧ w'.cell? ⟨w.heap.size, 5, none⟩ = some (.slice A F.data.length c)) (ds := [5]) #[false, false, false, false, false, false, false, false, false, false, false] (by kernel_rfl) rfl rfl HK.out (fun hHeld => ?_)
   refine pu_ (i := 0) (N := some 77) (v := ?_) (a' := ?_) rfl rfl (by kernel_rfl) (fun _ _ _ h => h) (by rfl) ?_ ?_ ?_
   rotate_left
   · (intro w'; go_simp; with_reducible rfl)
   rotate_left
   · (simp only [put_s, List.set, i64_w, i32_w]; rfl)
   refine pu_ (i := 1) (N := some 78) (v := ?_) (a' := ?_) rfl rfl (by kernel_rfl) (fun _ _ _ h => h) (by rfl) ?_ ?_ ?_
   rotate_left
   · (intro w'; go_simp; with_reducible rfl)
   rotate_left
   · (simp only [put_s, List.set, i64_w, i32_w]; rfl)
   refine pu_ (i := 2) (N := some 79) (v := ?_) (a' := ?_) rfl rfl (by kernel_rfl) (fun _ _ _ h => h) (by rfl) ?_ ?_ ?_
   rotate_left
   · (intro w'; go_simp; with_reducible rfl)
   rotate_left
   · (simp only [put_s, List.set, i64_w, i32_w]; rfl)
   refine tk_ (i := 3) (N := some 80) (v := ?_) (a' := ?_) rfl rfl (by kernel_rfl) (fun _ _ _ h => h) (by rfl) ?_ hHeld ?_ ?_
   rotate_left
   · (intro w' s0; go_simp; with_reducible rfl)
   rotate_left
   · (simp only [put_s, List.set, i64_w, i32_w]; rfl)
   refine tk_ (i := 4) (N := some 81) (v := ?_) (a' := ?_) rfl rfl (by kernel_rfl) (fun _ _ _ h => h) (by rfl) ?_ hHeld ?_ ?_
   rotate_left
   · (intro w' s0; go_simp; with_reducible rfl)
   rotate_left
   · (simp only [put_s, List.set, i64_w, i32_w]; rfl)
   refine la_ (i := 5) (N := some 82) rfl rfl (by kernel_rfl) (by decide) (fun K hK => ?_)
   refine goesV #[] Try.func82 (by kernel_rfl) rfl #[.agg #[.int .u8 (rp ps[i]).f0, .int .u8 (rp ps[i]).f1, .int .i64 (rp ps[i]).f2, .int .i64 (rp ps[i]).f3], .agg #[.int .i64 F.kind, .int .i64 F.tn, .int .i64 F.n, .int .i64 F.m, .string F.name, .slice A F.data.length c]] (by rfl) rfl rfl rfl (by simp [Act.eval]) ?_
   refine Calls.mono (put_ok ps[i] F A c _ HPOK.out HXD.out hd hn) ?_
   rintro e w9 ⟨v9, rfl, hb9, ho9⟩
   have HB9 := Lib.hid (Below.trans (Below.drew (Below.refl wr.heap.size wr)) (hb9.mono (Nat.le_refl _)))
   have HO9 := Lib.hid ho9
   clear hb9 ho9
   refine .inl ⟨_, rfl, ?_⟩
   refine hK.out _ _ ?_
   clear hK K
   refine norm_ (a' := ?_) ?_ ?_
   rotate_left
   ·
    show Act.put _ (some 82) _ = _
    simp only [put_s, List.set, i64_w, i32_w]
    rfl
   refine pu_ (i := 6) (N := some 76) (v := ?_) (a' := ?_) rfl rfl (by kernel_rfl) (fun _ _ _ h => h) (by rfl) ?_ ?_ ?_
   rotate_left
   · (intro w'; go_simp; with_reducible rfl)
   rotate_left
   · (simp only [put_s, List.set, i64_w, i32_w]; rfl)
   refine pu_ (i := 7) (N := some 83) (v := ?_) (a' := ?_) rfl rfl (by kernel_rfl) (fun _ _ _ h => h) (by rfl) ?_ ?_ ?_
   rotate_left
   · (intro w'; go_simp; with_reducible rfl)
   rotate_left
   · (simp only [put_s, List.set, i64_w, i32_w]; rfl)
   refine pu_ (i := 8) (N := some 84) (v := ?_) (a' := ?_) rfl rfl (by kernel_rfl) (fun _ _ _ h => h) (by rfl) ?_ ?_ ?_
   rotate_left
   · (intro w'; go_simp; with_reducible rfl)
   rotate_left
   · (simp only [put_s, List.set, i64_w, i32_w]; rfl)
   refine pu_ (i := 9) (N := some 13) (v := ?_) (a' := ?_) rfl rfl (by kernel_rfl) (fun _ _ _ h => h) (by rfl) ?_ ?_ ?_
   rotate_left
   · (intro w'; go_simp; with_reducible rfl)
   rotate_left
   · (simp only [put_s, List.set, i64_w, i32_w]; rfl)
   refine pu_ (i := 10) (N := some 14) (v := ?_) (a' := ?_) rfl rfl (by kernel_rfl) (fun _ _ _ h => h) (by rfl) ?_ ?_ ?_
   rotate_left
   · (intro w'; go_simp; with_reducible rfl)
   rotate_left
   · (simp only [put_s, List.set, i64_w, i32_w]; rfl)
   refine done_ (by kernel_rfl) ?_
   cases hf : fitsS ps[i] F with
   | true =>
    rw [hf] at HO9
    have HFT := Lib.hid hf
    have hl9 := HWL.out hf
    clear hf
    obtain ⟨A10, c10, hv10, _, hr10⟩ := Kd.R_reads (HO9.out rfl)
    subst hv10
    have HR10 := Lib.hid hr10
    clear hr10
    have hbig : i * (F.data.length + 21) ≤ 3000000100 := by
     have h3 : i ≤ 3 := by omega
     calc i * (F.data.length + 21) ≤ 3 * (F.data.length + 21) := Nat.mul_le_mul_right _ h3
      _ ≤ 3000000100 := by omega
    go_wp2_with (at_builtin; refine app_bytes (w0 := w2) w2.heap.size rfl (.tmp 87) (.tmp 88) rfl u11 bs (wrS ps[i] F) A10 _ c10 (fun _ => True) rfl rfl ?ho HR10.out (fun _ _ => trivial) ?hb ?hz (by omega) ?_; (case ho => exact Kd.R_below HS.out.own HB9.out); (case hb => exact HS.out.below.trans (HB9.out.mono HS.out.below.size)); (case hz => exact Nat.le_trans HS.out.below.size HB9.out.size); intro v11 w11 ho11 hb11 hg11 hat11; have HO11 := Lib.hid ho11; have HB11 := Lib.hid hb11; clear ho11 hb11 hg11 hat11)
    refine ⟨⟨i + 1, bs ++ wrS ps[i] F, by omega, by go_num, Lib.hid ⟨HB11.out, HO11.out, ?_, ?_⟩⟩, by simp [intOf]; omega⟩
    ·
     rw [HS.out.eq, HDR.out]
     simp only [encParts]
     rw [if_pos HFT.out, Option.map_map]
     congr 1
     funext x
     simp
    ·
     rw [List.length_append, Nat.succ_mul]
     omega
   | false =>
    rw [hf] at HO9
    have HFT := Lib.hid hf
    clear hf
    go_wp2_with fail
    go_ret2
    refine tail_no (HB2.out.trans ((HS.out.below.trans (HB9.out.mono HS.out.below.size)).mono hs2)) ?_
    rw [HS.out.eq, HDR.out]
    simp only [encParts]
    rw [if_neg (by rw [HFT.out]; simp)]
    rfl
  ·
   have hi' : i = ps.length := by omega
   subst hi'
   have di : decide ((ps.length : Int) < (ps.length : Int)) = false := by simp
   have hlen := HS.out.len
   have hbig : ps.length * (F.data.length + 21) ≤ 3000000100 := by
    calc ps.length * (F.data.length + 21) ≤ 3 * (F.data.length + 21) := Nat.mul_le_mul_right _ hps3
     _ ≤ 3000000100 := by omega
   obtain ⟨A10, c10, hv10, _, hr10⟩ := Kd.R_reads HS.out.own
   subst hv10
   have HR10 := Lib.hid hr10
   have HBW := Lib.hid (HB2.out.trans (HS.out.below.mono hs2))
   have hsw := HBW.out.size
   have hee : encParts ps F = some bs := by
    rw [HS.out.eq, List.drop_of_length_le (Nat.le_refl _)]
    simp [encParts]
   have HEE := Lib.hid hee
   have HGW := Lib.hid (Blk.below HG2.out HS.out.below)
   have hcell := Blk.cell (i := 0) HGW.out rfl
   clear hr10 hee
   go_wp2_with fail
   refine (digits_ok ((1 : Int) + (bs.length : Int)) 4 (by omega) (by omega) (by omega) wr).mono ?_
   rintro e w12 ⟨v12, rfl, ho12, hb12⟩
   have HO12 := Lib.hid ho12
   have HB12 := Lib.hid hb12
   have hs12 := hb12.size
   have hc12 := Blk.cell (i := 0) (Blk.below HGW.out hb12) rfl
   have HL4 := Lib.hid (beB_len ((1 : Int) + (bs.length : Int)) 4)
   clear ho12 hb12 hcell
   go_wp2_with (first
    | ((with_reducible refine gate_builtin (b := .append) (xs := #[.tmp 94, .tmp 98]) rfl ?_); at_builtin; refine Kd.R_append (Kd.int .u8) (w0 := w) w.heap.size rfl (.tmp 94) (.tmp 98) 22 5 (.int .u8 0) 1 rfl Try.underlying22 info5 rfl (Nat.succ_pos 0) (Nat.succ_pos 0) v12 (beB ((1 : Int) + (bs.length : Int)) 4) F.kind [.int .u8 F.kind] (fun _ => True) (fun _ => False) rfl rfl ?hp ?hokp (fun _ _ => trivial) ?hrow ?hbel ?hbase ?hl ?_; (case hp => rfl); (case hokp => exact fun k hk => hk.elim); (case hrow => exact Kd.R_lower HO12.out (by omega)); (case hbel => exact HBW.out.trans (HB12.out.mono hsw)); (case hbase => omega); (case hl => rw [HL4.out]; omega); intro v13 w13 hr13 hb13 hg13 hat13; have HR13 := Lib.hid hr13; have HB13 := Lib.hid hb13; have HG13 := Lib.hid hg13; clear hr13 hb13 hg13 hat13)
    | ((with_reducible refine gate_builtin (b := .append) (xs := #[.tmp 100, .tmp 101]) rfl ?_); at_builtin; refine app_bytes (w0 := w) w.heap.size rfl (.tmp 100) (.tmp 101) rfl v13 (beB ((1 : Int) + (bs.length : Int)) 4 ++ [F.kind]) bs A10 bs.length c10 (fun _ => True) rfl rfl ?ho ?hr (fun _ _ => trivial) ?hbel ?hbase ?hl ?_; (case ho => exact HR13.out); (case hr => exact grown_old HR10.out HB12.out HO12.out HG13.out); (case hbel => exact HB13.out); (case hbase => exact HB13.out.size); (case hl => rw [List.length_append, HL4.out]; simp; omega); intro v14 w14 ho14 hb14 hg14 hat14; have HO14 := Lib.hid ho14; have HB14 := Lib.hid hb14; clear ho14 hb14 hg14 hat14))
   go_ret2
   refine tail_out HUNC.out HB14.out HEE.out ?_
   have h := HO14.out
   rw [List.append_assoc] at h
   exact h
set_option maxHeartbeats 8000000 in
set_option maxRecDepth 100000 in
theorem encode_none (ps : List PS) (F : Flds) (A LA : Option Addr) (c lc : Nat) (w : World) (h84 : hasB ps 84 = false) (h78 : hasB ps 78 = false) (h77 : hasB ps 77 = false) (h65 : hasB ps 65 = false) (h68 : hasB ps 68 = false)
  (hps3 : ps.length ≤ 3) (hpok : ∀ p ∈ ps, pok p) (hsm : ∀ p ∈ ps, psmall p) (hl : Kd.C PProtoAll.k129 w LA ps.length (ps.map rp)) (hlc : ps.length ≤ lc) (hx : BytesAt w A F.data.length F.data) (hd : F.data.length ≤ 1000000000) (hn : F.name.size ≤ 1000000000) (hk0 : 0 ≤ F.kind) (hk1 : F.kind < 256) :
  Calls Try.prog 62 #[.agg #[.int .i64 F.kind, .int .i64 F.tn, .int .i64 F.n, .int .i64 F.m, .string F.name, .slice A F.data.length c], .slice LA ps.length lc] w (EncPost w (refE ps F)) := by
 have HX := Lib.hid hx
 have HL := Lib.hid hl
 clear hx hl
 by_cases ztn : F.tn = 0
 rotate_left
 ·
  have dtn : (F.tn != 0) = true := by rw [bne_iff_ne]; exact ztn
  have hu : uncov ps F = false := by simp [uncov, h84, h78, h77, h65, h68, ztn]
  have HU := Lib.hid hu
  clear hu
  go_enter Try.func62, Try.ntmps62
  go_wp2_with (first | (go_at_call 81; refine Calls.mono (has_any ps _ LA lc _ (by omega) (Kd.C_below HL.out ?hb) hlc) ?_; (case hb => first | exact ba _ | exact bdrews (ba _) _ | exact bdrews (bdrews (ba _) _) _ | exact bdrews (bdrews (bdrews (ba _) _) _) _ | exact bdrews (bdrews (bdrews (bdrews (ba _) _) _) _) _); rintro e w' ⟨rfl, hd'⟩; obtain ⟨nn, rfl⟩ := hd'.out))
  go_ret2
  refine unc_no ?_ HU.out
  repeat (with_reducible refine bdrews ?_ _)
  exact ba _
 have etn : (F.tn != 0) = false := by rw [ztn]; rfl
 by_cases zn : F.n = 0
 rotate_left
 ·
  have dn : (F.n != 0) = true := by rw [bne_iff_ne]; exact zn
  have hu : uncov ps F = false := by simp [uncov, h84, h78, h77, h65, h68, zn]
  have HU := Lib.hid hu
  clear hu
  go_enter Try.func62, Try.ntmps62
  go_wp2_with (first | (go_at_call 81; refine Calls.mono (has_any ps _ LA lc _ (by omega) (Kd.C_below HL.out ?hb) hlc) ?_; (case hb => first | exact ba _ | exact bdrews (ba _) _ | exact bdrews (bdrews (ba _) _) _ | exact bdrews (bdrews (bdrews (ba _) _) _) _ | exact bdrews (bdrews (bdrews (bdrews (ba _) _) _) _) _); rintro e w' ⟨rfl, hd'⟩; obtain ⟨nn, rfl⟩ := hd'.out))
  go_ret2
  refine unc_no ?_ HU.out
  repeat (with_reducible refine bdrews ?_ _)
  exact ba _
 have en : (F.n != 0) = false := by rw [zn]; rfl
 by_cases zm : F.m = 0
 rotate_left
 ·
  have dm : (F.m != 0) = true := by rw [bne_iff_ne]; exact zm
  have hu : uncov ps F = false := by simp [uncov, h84, h78, h77, h65, h68, zm]
  have HU := Lib.hid hu
  clear hu
  go_enter Try.func62, Try.ntmps62
  go_wp2_with (first | (go_at_call 81; refine Calls.mono (has_any ps _ LA lc _ (by omega) (Kd.C_below HL.out ?hb) hlc) ?_; (case hb => first | exact ba _ | exact bdrews (ba _) _ | exact bdrews (bdrews (ba _) _) _ | exact bdrews (bdrews (bdrews (ba _) _) _) _ | exact bdrews (bdrews (bdrews (bdrews (ba _) _) _) _) _); rintro e w' ⟨rfl, hd'⟩; obtain ⟨nn, rfl⟩ := hd'.out))
  go_ret2
  refine unc_no ?_ HU.out
  repeat (with_reducible refine bdrews ?_ _)
  exact ba _
 have em : (F.m != 0) = false := by rw [zm]; rfl
 by_cases zname : F.name.toList.isEmpty = true
 rotate_left
 ·
  simp only [Bool.not_eq_true] at zname
  have hu : uncov ps F = false := by simp [uncov, h84, h78, h77, h65, h68, zname]
  have HU := Lib.hid hu
  clear hu
  go_enter Try.func62, Try.ntmps62
  go_wp2_with (first | (go_at_call 81; refine Calls.mono (has_any ps _ LA lc _ (by omega) (Kd.C_below HL.out ?hb) hlc) ?_; (case hb => first | exact ba _ | exact bdrews (ba _) _ | exact bdrews (bdrews (ba _) _) _ | exact bdrews (bdrews (bdrews (ba _) _) _) _ | exact bdrews (bdrews (bdrews (bdrews (ba _) _) _) _) _); rintro e w' ⟨rfl, hd'⟩; obtain ⟨nn, rfl⟩ := hd'.out))
  go_ret2
  refine unc_no ?_ HU.out
  repeat (with_reducible refine bdrews ?_ _)
  exact ba _
 have ename : F.name.toList = [] := by simpa using zname
 by_cases zdata : F.data.length = 0
 rotate_left
 ·
  have ddata : decide ((F.data.length : Int) > 0) = true := by simp; omega
  have ddata2 : decide (0 < F.data.length) = true := by simp; omega
  have hu : uncov ps F = false := by simp [uncov, h84, h78, h77, h65, h68, zdata]
  have HU := Lib.hid hu
  clear hu
  go_enter Try.func62, Try.ntmps62
  go_wp2_with (first | (go_at_call 81; refine Calls.mono (has_any ps _ LA lc _ (by omega) (Kd.C_below HL.out ?hb) hlc) ?_; (case hb => first | exact ba _ | exact bdrews (ba _) _ | exact bdrews (bdrews (ba _) _) _ | exact bdrews (bdrews (bdrews (ba _) _) _) _ | exact bdrews (bdrews (bdrews (bdrews (ba _) _) _) _) _); rintro e w' ⟨rfl, hd'⟩; obtain ⟨nn, rfl⟩ := hd'.out))
  go_ret2
  refine unc_no ?_ HU.out
  repeat (with_reducible refine bdrews ?_ _)
  exact ba _
 have edata : decide ((F.data.length : Int) > 0) = false := by rw [zdata]; rfl
 have edata2 : decide (0 < F.data.length) = false := by rw [zdata]; rfl
 have hunc : uncov ps F = true := by simp [uncov, h84, h78, h77, h65, h68, ztn, zn, zm, zname, zdata]
 have HUNC := Lib.hid hunc
 clear hunc
 have Hztn := Lib.hid ztn
 clear ztn
 have Hzn := Lib.hid zn
 clear zn
 have Hzm := Lib.hid zm
 clear zm
 have Hzname := Lib.hid zname
 clear zname
 have Hzdata := Lib.hid zdata
 clear zdata
 go_enter Try.func62, Try.ntmps62
 go_upto_region 8 with (first | (go_at_call 81; refine Calls.mono (has_any ps _ LA lc _ (by omega) (Kd.C_below HL.out ?hb) hlc) ?_; (case hb => first | exact ba _ | exact bdrews (ba _) _ | exact bdrews (bdrews (ba _) _) _ | exact bdrews (bdrews (bdrews (ba _) _) _) _ | exact bdrews (bdrews (bdrews (bdrews (ba _) _) _) _) _); rintro e w' ⟨rfl, hd'⟩; obtain ⟨nn, rfl⟩ := hd'.out))
 generalize hW : World.drewN _ _ = w2
 have hb2 : Below w.heap.size w w2 := by
  rw [← hW]
  repeat (with_reducible refine bdrews ?_ _)
  exact ba _
 have hg2 : Blk w2 w.heap.size #[.int .i64 F.kind, .int .i64 F.tn, .int .i64 F.n, .int .i64 F.m, .string F.name, .slice A F.data.length c] 118 := by
  rw [← hW]
  exact blkNew rfl
 clear hW
 have HB2 := Lib.hid hb2
 have HG2 := Lib.hid hg2
 have hs2 := hb2.size
 have hlt2 := Blk.lt hg2
 have HC2 := Lib.hid (Kd.C_below HL.out hb2)
 clear hb2 hg2
 go_wp2_with fail
 go_loopw [11, 12] (fun bv iv wr => ∃ (i : Nat) (bs : List Int), i ≤ ps.length ∧ iv = .int .i64 (i : Int) ∧ Hid (ESt w w2 wr ps F i bv bs)) (fun _ iv _ => ps.length - (intOf iv).toNat)
 case atStart => exact ⟨0, [], by omega, rfl, Lib.hid ⟨Below.refl _ _, Kd.R_nil _ _ _ _ _, by simp, by simp⟩⟩
 case round =>
  obtain ⟨i, bs, hi, rfl, HS⟩ := hrel
  by_cases hlt : i < ps.length
  ·
   have dl : decide ((i : Int) < (ps.length : Int)) = true := by simp; omega
   obtain ⟨ad, rfl, k0, k1, k2, k3⟩ := PProtoAll.at_T129 (Kd.C_below HC2.out HS.out.below) (i : Int) (by omega) (by omega)
   have e3 : PProtoAll.rd_T129 (ps.map rp) (i : Int) = rp ps[i] := by
    unfold PProtoAll.rd_T129
    rw [Int.toNat_natCast, List.getD_eq_getElem?_getD, List.getElem?_map, List.getElem?_eq_getElem hlt]
    rfl
   rw [e3] at k0 k1 k2 k3
   rw [Int.toNat_natCast] at k0 k1 k2 k3
   have hgr := Blk.below HG2.out HS.out.below
   have HK := Lib.hid (And.intro k0 (And.intro k1 (And.intro k2 (And.intro k3 (And.intro (Blk.cell (i := 0) hgr rfl) (And.intro (Blk.cell (i := 1) hgr rfl) (And.intro (Blk.cell (i := 2) hgr rfl) (And.intro (Blk.cell (i := 3) hgr rfl) (And.intro (Blk.cell (i := 4) hgr rfl) (Blk.cell (i := 5) hgr rfl))))))))))
   have HPOK := Lib.hid (hpok ps[i] (List.getElem_mem hlt))
   have HXD : Hid (BytesAt wr.drew A F.data.length F.data) := Lib.hid (BytesAt.below (B := 0) HX.out (HB2.out.trans ((HS.out.below.trans (Below.drew (Below.refl _ _))).mono hs2)))
   have hlen := HS.out.len
   have hdr : ps.drop i = ps[i] :: ps.drop (i + 1) := List.drop_eq_getElem_cons hlt
   have HDR := Lib.hid hdr
   have hwl : fitsS ps[i] F = true → (wrS ps[i] F).length ≤ F.data.length + 21 := wrS_len ps[i] F _ rfl (hsm ps[i] (List.getElem_mem hlt))
   have HWL := Lib.hid hwl
   clear k0 k1 k2 k3 hgr e3 hdr hwl
   go_wp2_with fail
   refine start_ (n := 11) (S := fun w' => w'.cell? (ad.add (i * 4)) = some (.int .u8 (rp ps[i]).f0) ∧ w'.cell? ⟨(ad.add (i * 4)).block, (ad.add (i * 4)).off + 1, none⟩ = some (.int .u8 (rp ps[i]).f1) ∧ w'.cell? ⟨(ad.add (i * 4)).block, (ad.add (i * 4)).off + 2, none⟩ = some (.int .i64 (rp ps[i]).f2) ∧ w'.cell? ⟨(ad.add (i * 4)).block, (ad.add (i * 4)).off + 3, none⟩ = some (.int .i64 (rp ps[i]).f3) ∧ w'.cell? ⟨w.heap.size, 0, none⟩ = some (.int .i64 F.kind) ∧ w'.cell? ⟨w.heap.size, 1, none⟩ = some (.int .i64 F.tn) ∧ w'.cell? ⟨w.heap.size, 2, none⟩ = some (.int .i64 F.n) ∧ w'.cell? ⟨w.heap.size, 3, none⟩ = some (.int .i64 F.m) ∧ w'.cell? ⟨w.heap.size, 4, none⟩ = some (.string F.name) ∧ w'.cell? ⟨w.heap.size, 5, none⟩ = some (.slice A F.data.length c)) (ds := [5]) #[false, false, false, false, false, false, false, false, false, false, false] (by kernel_rfl) rfl rfl HK.out (fun hHeld => ?_)
   refine pu_ (i := 0) (N := some 77) (v := ?_) (a' := ?_) rfl rfl (by kernel_rfl) (fun _ _ _ h => h) (by rfl) ?_ ?_ ?_
   rotate_left
   · (intro w'; go_simp; with_reducible rfl)
   rotate_left
   · (simp only [put_s, List.set, i64_w, i32_w]; rfl)
   refine pu_ (i := 1) (N := some 78) (v := ?_) (a' := ?_) rfl rfl (by kernel_rfl) (fun _ _ _ h => h) (by rfl) ?_ ?_ ?_
   rotate_left
   · (intro w'; go_simp; with_reducible rfl)
   rotate_left
   · (simp only [put_s, List.set, i64_w, i32_w]; rfl)
   refine pu_ (i := 2) (N := some 79) (v := ?_) (a' := ?_) rfl rfl (by kernel_rfl) (fun _ _ _ h => h) (by rfl) ?_ ?_ ?_
   rotate_left
   · (intro w'; go_simp; with_reducible rfl)
   rotate_left
   · (simp only [put_s, List.set, i64_w, i32_w]; rfl)
   refine tk_ (i := 3) (N := some 80) (v := ?_) (a' := ?_) rfl rfl (by kernel_rfl) (fun _ _ _ h => h) (by rfl) ?_ hHeld ?_ ?_
   rotate_left
   · (intro w' s0; go_simp; with_reducible rfl)
   rotate_left
   · (simp only [put_s, List.set, i64_w, i32_w]; rfl)
   refine tk_ (i := 4) (N := some 81) (v := ?_) (a' := ?_) rfl rfl (by kernel_rfl) (fun _ _ _ h => h) (by rfl) ?_ hHeld ?_ ?_
   rotate_left
   · (intro w' s0; go_simp; with_reducible rfl)
   rotate_left
   · (simp only [put_s, List.set, i64_w, i32_w]; rfl)
   refine la_ (i := 5) (N := some 82) rfl rfl (by kernel_rfl) (by decide) (fun K hK => ?_)
   refine goesV #[] Try.func82 (by kernel_rfl) rfl #[.agg #[.int .u8 (rp ps[i]).f0, .int .u8 (rp ps[i]).f1, .int .i64 (rp ps[i]).f2, .int .i64 (rp ps[i]).f3], .agg #[.int .i64 F.kind, .int .i64 F.tn, .int .i64 F.n, .int .i64 F.m, .string F.name, .slice A F.data.length c]] (by rfl) rfl rfl rfl (by simp [Act.eval]) ?_
   refine Calls.mono (put_ok ps[i] F A c _ HPOK.out HXD.out hd hn) ?_
   rintro e w9 ⟨v9, rfl, hb9, ho9⟩
   have HB9 := Lib.hid (Below.trans (Below.drew (Below.refl wr.heap.size wr)) (hb9.mono (Nat.le_refl _)))
   have HO9 := Lib.hid ho9
   clear hb9 ho9
   refine .inl ⟨_, rfl, ?_⟩
   refine hK.out _ _ ?_
   clear hK K
   refine norm_ (a' := ?_) ?_ ?_
   rotate_left
   ·
    show Act.put _ (some 82) _ = _
    simp only [put_s, List.set, i64_w, i32_w]
    rfl
   refine pu_ (i := 6) (N := some 76) (v := ?_) (a' := ?_) rfl rfl (by kernel_rfl) (fun _ _ _ h => h) (by rfl) ?_ ?_ ?_
   rotate_left
   · (intro w'; go_simp; with_reducible rfl)
   rotate_left
   · (simp only [put_s, List.set, i64_w, i32_w]; rfl)
   refine pu_ (i := 7) (N := some 83) (v := ?_) (a' := ?_) rfl rfl (by kernel_rfl) (fun _ _ _ h => h) (by rfl) ?_ ?_ ?_
   rotate_left
   · (intro w'; go_simp; with_reducible rfl)
   rotate_left
   · (simp only [put_s, List.set, i64_w, i32_w]; rfl)
   refine pu_ (i := 8) (N := some 84) (v := ?_) (a' := ?_) rfl rfl (by kernel_rfl) (fun _ _ _ h => h) (by rfl) ?_ ?_ ?_
   rotate_left
   · (intro w'; go_simp; with_reducible rfl)
   rotate_left
   · (simp only [put_s, List.set, i64_w, i32_w]; rfl)
   refine pu_ (i := 9) (N := some 13) (v := ?_) (a' := ?_) rfl rfl (by kernel_rfl) (fun _ _ _ h => h) (by rfl) ?_ ?_ ?_
   rotate_left
   · (intro w'; go_simp; with_reducible rfl)
   rotate_left
   · (simp only [put_s, List.set, i64_w, i32_w]; rfl)
   refine pu_ (i := 10) (N := some 14) (v := ?_) (a' := ?_) rfl rfl (by kernel_rfl) (fun _ _ _ h => h) (by rfl) ?_ ?_ ?_
   rotate_left
   · (intro w'; go_simp; with_reducible rfl)
   rotate_left
   · (simp only [put_s, List.set, i64_w, i32_w]; rfl)
   refine done_ (by kernel_rfl) ?_
   cases hf : fitsS ps[i] F with
   | true =>
    rw [hf] at HO9
    have HFT := Lib.hid hf
    have hl9 := HWL.out hf
    clear hf
    obtain ⟨A10, c10, hv10, _, hr10⟩ := Kd.R_reads (HO9.out rfl)
    subst hv10
    have HR10 := Lib.hid hr10
    clear hr10
    have hbig : i * (F.data.length + 21) ≤ 3000000100 := by
     have h3 : i ≤ 3 := by omega
     calc i * (F.data.length + 21) ≤ 3 * (F.data.length + 21) := Nat.mul_le_mul_right _ h3
      _ ≤ 3000000100 := by omega
    go_wp2_with (at_builtin; refine app_bytes (w0 := w2) w2.heap.size rfl (.tmp 87) (.tmp 88) rfl u11 bs (wrS ps[i] F) A10 _ c10 (fun _ => True) rfl rfl ?ho HR10.out (fun _ _ => trivial) ?hb ?hz (by omega) ?_; (case ho => exact Kd.R_below HS.out.own HB9.out); (case hb => exact HS.out.below.trans (HB9.out.mono HS.out.below.size)); (case hz => exact Nat.le_trans HS.out.below.size HB9.out.size); intro v11 w11 ho11 hb11 hg11 hat11; have HO11 := Lib.hid ho11; have HB11 := Lib.hid hb11; clear ho11 hb11 hg11 hat11)
    refine ⟨⟨i + 1, bs ++ wrS ps[i] F, by omega, by go_num, Lib.hid ⟨HB11.out, HO11.out, ?_, ?_⟩⟩, by simp [intOf]; omega⟩
    ·
     rw [HS.out.eq, HDR.out]
     simp only [encParts]
     rw [if_pos HFT.out, Option.map_map]
     congr 1
     funext x
     simp
    ·
     rw [List.length_append, Nat.succ_mul]
     omega
   | false =>
    rw [hf] at HO9
    have HFT := Lib.hid hf
    clear hf
    go_wp2_with fail
    go_ret2
    refine tail_no (HB2.out.trans ((HS.out.below.trans (HB9.out.mono HS.out.below.size)).mono hs2)) ?_
    rw [HS.out.eq, HDR.out]
    simp only [encParts]
    rw [if_neg (by rw [HFT.out]; simp)]
    rfl
  ·
   have hi' : i = ps.length := by omega
   subst hi'
   have di : decide ((ps.length : Int) < (ps.length : Int)) = false := by simp
   have hlen := HS.out.len
   have hbig : ps.length * (F.data.length + 21) ≤ 3000000100 := by
    calc ps.length * (F.data.length + 21) ≤ 3 * (F.data.length + 21) := Nat.mul_le_mul_right _ hps3
     _ ≤ 3000000100 := by omega
   obtain ⟨A10, c10, hv10, _, hr10⟩ := Kd.R_reads HS.out.own
   subst hv10
   have HR10 := Lib.hid hr10
   have HBW := Lib.hid (HB2.out.trans (HS.out.below.mono hs2))
   have hsw := HBW.out.size
   have hee : encParts ps F = some bs := by
    rw [HS.out.eq, List.drop_of_length_le (Nat.le_refl _)]
    simp [encParts]
   have HEE := Lib.hid hee
   have HGW := Lib.hid (Blk.below HG2.out HS.out.below)
   have hcell := Blk.cell (i := 0) HGW.out rfl
   clear hr10 hee
   go_wp2_with fail
   refine (digits_ok ((1 : Int) + (bs.length : Int)) 4 (by omega) (by omega) (by omega) wr).mono ?_
   rintro e w12 ⟨v12, rfl, ho12, hb12⟩
   have HO12 := Lib.hid ho12
   have HB12 := Lib.hid hb12
   have hs12 := hb12.size
   have hc12 := Blk.cell (i := 0) (Blk.below HGW.out hb12) rfl
   have HL4 := Lib.hid (beB_len ((1 : Int) + (bs.length : Int)) 4)
   clear ho12 hb12 hcell
   go_wp2_with (first
    | ((with_reducible refine gate_builtin (b := .append) (xs := #[.tmp 94, .tmp 98]) rfl ?_); at_builtin; refine Kd.R_append (Kd.int .u8) (w0 := w) w.heap.size rfl (.tmp 94) (.tmp 98) 22 5 (.int .u8 0) 1 rfl Try.underlying22 info5 rfl (Nat.succ_pos 0) (Nat.succ_pos 0) v12 (beB ((1 : Int) + (bs.length : Int)) 4) F.kind [.int .u8 F.kind] (fun _ => True) (fun _ => False) rfl rfl ?hp ?hokp (fun _ _ => trivial) ?hrow ?hbel ?hbase ?hl ?_; (case hp => rfl); (case hokp => exact fun k hk => hk.elim); (case hrow => exact Kd.R_lower HO12.out (by omega)); (case hbel => exact HBW.out.trans (HB12.out.mono hsw)); (case hbase => omega); (case hl => rw [HL4.out]; omega); intro v13 w13 hr13 hb13 hg13 hat13; have HR13 := Lib.hid hr13; have HB13 := Lib.hid hb13; have HG13 := Lib.hid hg13; clear hr13 hb13 hg13 hat13)
    | ((with_reducible refine gate_builtin (b := .append) (xs := #[.tmp 100, .tmp 101]) rfl ?_); at_builtin; refine app_bytes (w0 := w) w.heap.size rfl (.tmp 100) (.tmp 101) rfl v13 (beB ((1 : Int) + (bs.length : Int)) 4 ++ [F.kind]) bs A10 bs.length c10 (fun _ => True) rfl rfl ?ho ?hr (fun _ _ => trivial) ?hbel ?hbase ?hl ?_; (case ho => exact HR13.out); (case hr => exact grown_old HR10.out HB12.out HO12.out HG13.out); (case hbel => exact HB13.out); (case hbase => exact HB13.out.size); (case hl => rw [List.length_append, HL4.out]; simp; omega); intro v14 w14 ho14 hb14 hg14 hat14; have HO14 := Lib.hid ho14; have HB14 := Lib.hid hb14; clear ho14 hb14 hg14 hat14))
   go_ret2
   refine tail_out HUNC.out HB14.out HEE.out ?_
   have h := HO14.out
   rw [List.append_assoc] at h
   exact h
set_option maxHeartbeats 8000000 in
set_option maxRecDepth 100000 in
theorem encode_nm (ps : List PS) (F : Flds) (A LA : Option Addr) (c lc : Nat) (w : World) (h84 : hasB ps 84 = false) (h78 : hasB ps 78 = true) (h77 : hasB ps 77 = true) (h65 : hasB ps 65 = false) (h68 : hasB ps 68 = false)
  (hps3 : ps.length ≤ 3) (hpok : ∀ p ∈ ps, pok p) (hsm : ∀ p ∈ ps, psmall p) (hl : Kd.C PProtoAll.k129 w LA ps.length (ps.map rp)) (hlc : ps.length ≤ lc) (hx : BytesAt w A F.data.length F.data) (hd : F.data.length ≤ 1000000000) (hn : F.name.size ≤ 1000000000) (hk0 : 0 ≤ F.kind) (hk1 : F.kind < 256) :
  Calls Try.prog 62 #[.agg #[.int .i64 F.kind, .int .i64 F.tn, .int .i64 F.n, .int .i64 F.m, .string F.name, .slice A F.data.length c], .slice LA ps.length lc] w (EncPost w (refE ps F)) := by
 have HX := Lib.hid hx
 have HL := Lib.hid hl
 clear hx hl
 by_cases ztn : F.tn = 0
 rotate_left
 ·
  have dtn : (F.tn != 0) = true := by rw [bne_iff_ne]; exact ztn
  have hu : uncov ps F = false := by simp [uncov, h84, h78, h77, h65, h68, ztn]
  have HU := Lib.hid hu
  clear hu
  go_enter Try.func62, Try.ntmps62
  go_wp2_with (first | (go_at_call 81; refine Calls.mono (has_any ps _ LA lc _ (by omega) (Kd.C_below HL.out ?hb) hlc) ?_; (case hb => first | exact ba _ | exact bdrews (ba _) _ | exact bdrews (bdrews (ba _) _) _ | exact bdrews (bdrews (bdrews (ba _) _) _) _ | exact bdrews (bdrews (bdrews (bdrews (ba _) _) _) _) _); rintro e w' ⟨rfl, hd'⟩; obtain ⟨nn, rfl⟩ := hd'.out))
  go_ret2
  refine unc_no ?_ HU.out
  repeat (with_reducible refine bdrews ?_ _)
  exact ba _
 have etn : (F.tn != 0) = false := by rw [ztn]; rfl
 by_cases zname : F.name.toList.isEmpty = true
 rotate_left
 ·
  simp only [Bool.not_eq_true] at zname
  have hu : uncov ps F = false := by simp [uncov, h84, h78, h77, h65, h68, zname]
  have HU := Lib.hid hu
  clear hu
  go_enter Try.func62, Try.ntmps62
  go_wp2_with (first | (go_at_call 81; refine Calls.mono (has_any ps _ LA lc _ (by omega) (Kd.C_below HL.out ?hb) hlc) ?_; (case hb => first | exact ba _ | exact bdrews (ba _) _ | exact bdrews (bdrews (ba _) _) _ | exact bdrews (bdrews (bdrews (ba _) _) _) _ | exact bdrews (bdrews (bdrews (bdrews (ba _) _) _) _) _); rintro e w' ⟨rfl, hd'⟩; obtain ⟨nn, rfl⟩ := hd'.out))
  go_ret2
  refine unc_no ?_ HU.out
  repeat (with_reducible refine bdrews ?_ _)
  exact ba _
 have ename : F.name.toList = [] := by simpa using zname
 by_cases zdata : F.data.length = 0
 rotate_left
 ·
  have ddata : decide ((F.data.length : Int) > 0) = true := by simp; omega
  have ddata2 : decide (0 < F.data.length) = true := by simp; omega
  have hu : uncov ps F = false := by simp [uncov, h84, h78, h77, h65, h68, zdata]
  have HU := Lib.hid hu
  clear hu
  go_enter Try.func62, Try.ntmps62
  go_wp2_with (first | (go_at_call 81; refine Calls.mono (has_any ps _ LA lc _ (by omega) (Kd.C_below HL.out ?hb) hlc) ?_; (case hb => first | exact ba _ | exact bdrews (ba _) _ | exact bdrews (bdrews (ba _) _) _ | exact bdrews (bdrews (bdrews (ba _) _) _) _ | exact bdrews (bdrews (bdrews (bdrews (ba _) _) _) _) _); rintro e w' ⟨rfl, hd'⟩; obtain ⟨nn, rfl⟩ := hd'.out))
  go_ret2
  refine unc_no ?_ HU.out
  repeat (with_reducible refine bdrews ?_ _)
  exact ba _
 have edata : decide ((F.data.length : Int) > 0) = false := by rw [zdata]; rfl
 have edata2 : decide (0 < F.data.length) = false := by rw [zdata]; rfl
 have hunc : uncov ps F = true := by simp [uncov, h84, h78, h77, h65, h68, ztn, zname, zdata]
 have HUNC := Lib.hid hunc
 clear hunc
 have Hztn := Lib.hid ztn
 clear ztn
 have Hzname := Lib.hid zname
 clear zname
 have Hzdata := Lib.hid zdata
 clear zdata
 go_enter Try.func62, Try.ntmps62
 go_upto_region 8 with (first | (go_at_call 81; refine Calls.mono (has_any ps _ LA lc _ (by omega) (Kd.C_below HL.out ?hb) hlc) ?_; (case hb => first | exact ba _ | exact bdrews (ba _) _ | exact bdrews (bdrews (ba _) _) _ | exact bdrews (bdrews (bdrews (ba _) _) _) _ | exact bdrews (bdrews (bdrews (bdrews (ba _) _) _) _) _); rintro e w' ⟨rfl, hd'⟩; obtain ⟨nn, rfl⟩ := hd'.out))
 generalize hW : World.drewN _ _ = w2
 have hb2 : Below w.heap.size w w2 := by
  rw [← hW]
  repeat (with_reducible refine bdrews ?_ _)
  exact ba _
 have hg2 : Blk w2 w.heap.size #[.int .i64 F.kind, .int .i64 F.tn, .int .i64 F.n, .int .i64 F.m, .string F.name, .slice A F.data.length c] 118 := by
  rw [← hW]
  exact blkNew rfl
 clear hW
 have HB2 := Lib.hid hb2
 have HG2 := Lib.hid hg2
 have hs2 := hb2.size
 have hlt2 := Blk.lt hg2
 have HC2 := Lib.hid (Kd.C_below HL.out hb2)
 clear hb2 hg2
 go_wp2_with fail
 go_loopw [11, 12] (fun bv iv wr => ∃ (i : Nat) (bs : List Int), i ≤ ps.length ∧ iv = .int .i64 (i : Int) ∧ Hid (ESt w w2 wr ps F i bv bs)) (fun _ iv _ => ps.length - (intOf iv).toNat)
 case atStart => exact ⟨0, [], by omega, rfl, Lib.hid ⟨Below.refl _ _, Kd.R_nil _ _ _ _ _, by simp, by simp⟩⟩
 case round =>
  obtain ⟨i, bs, hi, rfl, HS⟩ := hrel
  by_cases hlt : i < ps.length
  ·
   have dl : decide ((i : Int) < (ps.length : Int)) = true := by simp; omega
   obtain ⟨ad, rfl, k0, k1, k2, k3⟩ := PProtoAll.at_T129 (Kd.C_below HC2.out HS.out.below) (i : Int) (by omega) (by omega)
   have e3 : PProtoAll.rd_T129 (ps.map rp) (i : Int) = rp ps[i] := by
    unfold PProtoAll.rd_T129
    rw [Int.toNat_natCast, List.getD_eq_getElem?_getD, List.getElem?_map, List.getElem?_eq_getElem hlt]
    rfl
   rw [e3] at k0 k1 k2 k3
   rw [Int.toNat_natCast] at k0 k1 k2 k3
   have hgr := Blk.below HG2.out HS.out.below
   have HK := Lib.hid (And.intro k0 (And.intro k1 (And.intro k2 (And.intro k3 (And.intro (Blk.cell (i := 0) hgr rfl) (And.intro (Blk.cell (i := 1) hgr rfl) (And.intro (Blk.cell (i := 2) hgr rfl) (And.intro (Blk.cell (i := 3) hgr rfl) (And.intro (Blk.cell (i := 4) hgr rfl) (Blk.cell (i := 5) hgr rfl))))))))))
   have HPOK := Lib.hid (hpok ps[i] (List.getElem_mem hlt))
   have HXD : Hid (BytesAt wr.drew A F.data.length F.data) := Lib.hid (BytesAt.below (B := 0) HX.out (HB2.out.trans ((HS.out.below.trans (Below.drew (Below.refl _ _))).mono hs2)))
   have hlen := HS.out.len
   have hdr : ps.drop i = ps[i] :: ps.drop (i + 1) := List.drop_eq_getElem_cons hlt
   have HDR := Lib.hid hdr
   have hwl : fitsS ps[i] F = true → (wrS ps[i] F).length ≤ F.data.length + 21 := wrS_len ps[i] F _ rfl (hsm ps[i] (List.getElem_mem hlt))
   have HWL := Lib.hid hwl
   clear k0 k1 k2 k3 hgr e3 hdr hwl
   go_wp2_with fail
   refine start_ (n := 11) (S := fun w' => w'.cell? (ad.add (i * 4)) = some (.int .u8 (rp ps[i]).f0) ∧ w'.cell? ⟨(ad.add (i * 4)).block, (ad.add (i * 4)).off + 1, none⟩ = some (.int .u8 (rp ps[i]).f1) ∧ w'.cell? ⟨(ad.add (i * 4)).block, (ad.add (i * 4)).off + 2, none⟩ = some (.int .i64 (rp ps[i]).f2) ∧ w'.cell? ⟨(ad.add (i * 4)).block, (ad.add (i * 4)).off + 3, none⟩ = some (.int .i64 (rp ps[i]).f3) ∧ w'.cell? ⟨w.heap.size, 0, none⟩ = some (.int .i64 F.kind) ∧ w'.cell? ⟨w.heap.size, 1, none⟩ = some (.int .i64 F.tn) ∧ w'.cell? ⟨w.heap.size, 2, none⟩ = some (.int .i64 F.n) ∧ w'.cell? ⟨w.heap.size, 3, none⟩ = some (.int .i64 F.m) ∧ w'.cell? ⟨w.heap.size, 4, none⟩ = some (.string F.name) ∧ w'.cell? ⟨w.heap.size, 5, none⟩ = some (.slice A F.data.length c)) (ds := [5]) #[false, false, false, false, false, false, false, false, false, false, false] (by kernel_rfl) rfl rfl HK.out (fun hHeld => ?_)
   refine pu_ (i := 0) (N := some 77) (v := ?_) (a' := ?_) rfl rfl (by kernel_rfl) (fun _ _ _ h => h) (by rfl) ?_ ?_ ?_
   rotate_left
   · (intro w'; go_simp; with_reducible rfl)
   rotate_left
   · (simp only [put_s, List.set, i64_w, i32_w]; rfl)
   refine pu_ (i := 1) (N := some 78) (v := ?_) (a' := ?_) rfl rfl (by kernel_rfl) (fun _ _ _ h => h) (by rfl) ?_ ?_ ?_
   rotate_left
   · (intro w'; go_simp; with_reducible rfl)
   rotate_left
   · (simp only [put_s, List.set, i64_w, i32_w]; rfl)
   refine pu_ (i := 2) (N := some 79) (v := ?_) (a' := ?_) rfl rfl (by kernel_rfl) (fun _ _ _ h => h) (by rfl) ?_ ?_ ?_
   rotate_left
   · (intro w'; go_simp; with_reducible rfl)
   rotate_left
   · (simp only [put_s, List.set, i64_w, i32_w]; rfl)
   refine tk_ (i := 3) (N := some 80) (v := ?_) (a' := ?_) rfl rfl (by kernel_rfl) (fun _ _ _ h => h) (by rfl) ?_ hHeld ?_ ?_
   rotate_left
   · (intro w' s0; go_simp; with_reducible rfl)
   rotate_left
   · (simp only [put_s, List.set, i64_w, i32_w]; rfl)
   refine tk_ (i := 4) (N := some 81) (v := ?_) (a' := ?_) rfl rfl (by kernel_rfl) (fun _ _ _ h => h) (by rfl) ?_ hHeld ?_ ?_
   rotate_left
   · (intro w' s0; go_simp; with_reducible rfl)
   rotate_left
   · (simp only [put_s, List.set, i64_w, i32_w]; rfl)
   refine la_ (i := 5) (N := some 82) rfl rfl (by kernel_rfl) (by decide) (fun K hK => ?_)
   refine goesV #[] Try.func82 (by kernel_rfl) rfl #[.agg #[.int .u8 (rp ps[i]).f0, .int .u8 (rp ps[i]).f1, .int .i64 (rp ps[i]).f2, .int .i64 (rp ps[i]).f3], .agg #[.int .i64 F.kind, .int .i64 F.tn, .int .i64 F.n, .int .i64 F.m, .string F.name, .slice A F.data.length c]] (by rfl) rfl rfl rfl (by simp [Act.eval]) ?_
   refine Calls.mono (put_ok ps[i] F A c _ HPOK.out HXD.out hd hn) ?_
   rintro e w9 ⟨v9, rfl, hb9, ho9⟩
   have HB9 := Lib.hid (Below.trans (Below.drew (Below.refl wr.heap.size wr)) (hb9.mono (Nat.le_refl _)))
   have HO9 := Lib.hid ho9
   clear hb9 ho9
   refine .inl ⟨_, rfl, ?_⟩
   refine hK.out _ _ ?_
   clear hK K
   refine norm_ (a' := ?_) ?_ ?_
   rotate_left
   ·
    show Act.put _ (some 82) _ = _
    simp only [put_s, List.set, i64_w, i32_w]
    rfl
   refine pu_ (i := 6) (N := some 76) (v := ?_) (a' := ?_) rfl rfl (by kernel_rfl) (fun _ _ _ h => h) (by rfl) ?_ ?_ ?_
   rotate_left
   · (intro w'; go_simp; with_reducible rfl)
   rotate_left
   · (simp only [put_s, List.set, i64_w, i32_w]; rfl)
   refine pu_ (i := 7) (N := some 83) (v := ?_) (a' := ?_) rfl rfl (by kernel_rfl) (fun _ _ _ h => h) (by rfl) ?_ ?_ ?_
   rotate_left
   · (intro w'; go_simp; with_reducible rfl)
   rotate_left
   · (simp only [put_s, List.set, i64_w, i32_w]; rfl)
   refine pu_ (i := 8) (N := some 84) (v := ?_) (a' := ?_) rfl rfl (by kernel_rfl) (fun _ _ _ h => h) (by rfl) ?_ ?_ ?_
   rotate_left
   · (intro w'; go_simp; with_reducible rfl)
   rotate_left
   · (simp only [put_s, List.set, i64_w, i32_w]; rfl)
   refine pu_ (i := 9) (N := some 13) (v := ?_) (a' := ?_) rfl rfl (by kernel_rfl) (fun _ _ _ h => h) (by rfl) ?_ ?_ ?_
   rotate_left
   · (intro w'; go_simp; with_reducible rfl)
   rotate_left
   · (simp only [put_s, List.set, i64_w, i32_w]; rfl)
   refine pu_ (i := 10) (N := some 14) (v := ?_) (a' := ?_) rfl rfl (by kernel_rfl) (fun _ _ _ h => h) (by rfl) ?_ ?_ ?_
   rotate_left
   · (intro w'; go_simp; with_reducible rfl)
   rotate_left
   · (simp only [put_s, List.set, i64_w, i32_w]; rfl)
   refine done_ (by kernel_rfl) ?_
   cases hf : fitsS ps[i] F with
   | true =>
    rw [hf] at HO9
    have HFT := Lib.hid hf
    have hl9 := HWL.out hf
    clear hf
    obtain ⟨A10, c10, hv10, _, hr10⟩ := Kd.R_reads (HO9.out rfl)
    subst hv10
    have HR10 := Lib.hid hr10
    clear hr10
    have hbig : i * (F.data.length + 21) ≤ 3000000100 := by
     have h3 : i ≤ 3 := by omega
     calc i * (F.data.length + 21) ≤ 3 * (F.data.length + 21) := Nat.mul_le_mul_right _ h3
      _ ≤ 3000000100 := by omega
    go_wp2_with (at_builtin; refine app_bytes (w0 := w2) w2.heap.size rfl (.tmp 87) (.tmp 88) rfl u11 bs (wrS ps[i] F) A10 _ c10 (fun _ => True) rfl rfl ?ho HR10.out (fun _ _ => trivial) ?hb ?hz (by omega) ?_; (case ho => exact Kd.R_below HS.out.own HB9.out); (case hb => exact HS.out.below.trans (HB9.out.mono HS.out.below.size)); (case hz => exact Nat.le_trans HS.out.below.size HB9.out.size); intro v11 w11 ho11 hb11 hg11 hat11; have HO11 := Lib.hid ho11; have HB11 := Lib.hid hb11; clear ho11 hb11 hg11 hat11)
    refine ⟨⟨i + 1, bs ++ wrS ps[i] F, by omega, by go_num, Lib.hid ⟨HB11.out, HO11.out, ?_, ?_⟩⟩, by simp [intOf]; omega⟩
    ·
     rw [HS.out.eq, HDR.out]
     simp only [encParts]
     rw [if_pos HFT.out, Option.map_map]
     congr 1
     funext x
     simp
    ·
     rw [List.length_append, Nat.succ_mul]
     omega
   | false =>
    rw [hf] at HO9
    have HFT := Lib.hid hf
    clear hf
    go_wp2_with fail
    go_ret2
    refine tail_no (HB2.out.trans ((HS.out.below.trans (HB9.out.mono HS.out.below.size)).mono hs2)) ?_
    rw [HS.out.eq, HDR.out]
    simp only [encParts]
    rw [if_neg (by rw [HFT.out]; simp)]
    rfl
  ·
   have hi' : i = ps.length := by omega
   subst hi'
   have di : decide ((ps.length : Int) < (ps.length : Int)) = false := by simp
   have hlen := HS.out.len
   have hbig : ps.length * (F.data.length + 21) ≤ 3000000100 := by
    calc ps.length * (F.data.length + 21) ≤ 3 * (F.data.length + 21) := Nat.mul_le_mul_right _ hps3
     _ ≤ 3000000100 := by omega
   obtain ⟨A10, c10, hv10, _, hr10⟩ := Kd.R_reads HS.out.own
   subst hv10
   have HR10 := Lib.hid hr10
   have HBW := Lib.hid (HB2.out.trans (HS.out.below.mono hs2))
   have hsw := HBW.out.size
   have hee : encParts ps F = some bs := by
    rw [HS.out.eq, List.drop_of_length_le (Nat.le_refl _)]
    simp [encParts]
   have HEE := Lib.hid hee
   have HGW := Lib.hid (Blk.below HG2.out HS.out.below)
   have hcell := Blk.cell (i := 0) HGW.out rfl
   clear hr10 hee
   go_wp2_with fail
   refine (digits_ok ((1 : Int) + (bs.length : Int)) 4 (by omega) (by omega) (by omega) wr).mono ?_
   rintro e w12 ⟨v12, rfl, ho12, hb12⟩
   have HO12 := Lib.hid ho12
   have HB12 := Lib.hid hb12
   have hs12 := hb12.size
   have hc12 := Blk.cell (i := 0) (Blk.below HGW.out hb12) rfl
   have HL4 := Lib.hid (beB_len ((1 : Int) + (bs.length : Int)) 4)
   clear ho12 hb12 hcell
   go_wp2_with (first
    | ((with_reducible refine gate_builtin (b := .append) (xs := #[.tmp 94, .tmp 98]) rfl ?_); at_builtin; refine Kd.R_append (Kd.int .u8) (w0 := w) w.heap.size rfl (.tmp 94) (.tmp 98) 22 5 (.int .u8 0) 1 rfl Try.underlying22 info5 rfl (Nat.succ_pos 0) (Nat.succ_pos 0) v12 (beB ((1 : Int) + (bs.length : Int)) 4) F.kind [.int .u8 F.kind] (fun _ => True) (fun _ => False) rfl rfl ?hp ?hokp (fun _ _ => trivial) ?hrow ?hbel ?hbase ?hl ?_; (case hp => rfl); (case hokp => exact fun k hk => hk.elim); (case hrow => exact Kd.R_lower HO12.out (by omega)); (case hbel => exact HBW.out.trans (HB12.out.mono hsw)); (case hbase => omega); (case hl => rw [HL4.out]; omega); intro v13 w13 hr13 hb13 hg13 hat13; have HR13 := Lib.hid hr13; have HB13 := Lib.hid hb13; have HG13 := Lib.hid hg13; clear hr13 hb13 hg13 hat13)
    | ((with_reducible refine gate_builtin (b := .append) (xs := #[.tmp 100, .tmp 101]) rfl ?_); at_builtin; refine app_bytes (w0 := w) w.heap.size rfl (.tmp 100) (.tmp 101) rfl v13 (beB ((1 : Int) + (bs.length : Int)) 4 ++ [F.kind]) bs A10 bs.length c10 (fun _ => True) rfl rfl ?ho ?hr (fun _ _ => trivial) ?hbel ?hbase ?hl ?_; (case ho => exact HR13.out); (case hr => exact grown_old HR10.out HB12.out HO12.out HG13.out); (case hbel => exact HB13.out); (case hbase => exact HB13.out.size); (case hl => rw [List.length_append, HL4.out]; simp; omega); intro v14 w14 ho14 hb14 hg14 hat14; have HO14 := Lib.hid ho14; have HB14 := Lib.hid hb14; clear ho14 hb14 hg14 hat14))
   go_ret2
   refine tail_out HUNC.out HB14.out HEE.out ?_
   have h := HO14.out
   rw [List.append_assoc] at h
   exact h
set_option maxHeartbeats 8000000 in
set_option maxRecDepth 100000 in
theorem encode_nd (ps : List PS) (F : Flds) (A LA : Option Addr) (c lc : Nat) (w : World) (h84 : hasB ps 84 = false) (h78 : hasB ps 78 = true) (h77 : hasB ps 77 = false) (h65 : hasB ps 65 = false) (h68 : hasB ps 68 = true)
  (hps3 : ps.length ≤ 3) (hpok : ∀ p ∈ ps, pok p) (hsm : ∀ p ∈ ps, psmall p) (hl : Kd.C PProtoAll.k129 w LA ps.length (ps.map rp)) (hlc : ps.length ≤ lc) (hx : BytesAt w A F.data.length F.data) (hd : F.data.length ≤ 1000000000) (hn : F.name.size ≤ 1000000000) (hk0 : 0 ≤ F.kind) (hk1 : F.kind < 256) :
  Calls Try.prog 62 #[.agg #[.int .i64 F.kind, .int .i64 F.tn, .int .i64 F.n, .int .i64 F.m, .string F.name, .slice A F.data.length c], .slice LA ps.length lc] w (EncPost w (refE ps F)) := by
 have HX := Lib.hid hx
 have HL := Lib.hid hl
 clear hx hl
 by_cases ztn : F.tn = 0
 rotate_left
 ·
  have dtn : (F.tn != 0) = true := by rw [bne_iff_ne]; exact ztn
  have hu : uncov ps F = false := by simp [uncov, h84, h78, h77, h65, h68, ztn]
  have HU := Lib.hid hu
  clear hu
  go_enter Try.func62, Try.ntmps62
  go_wp2_with (first | (go_at_call 81; refine Calls.mono (has_any ps _ LA lc _ (by omega) (Kd.C_below HL.out ?hb) hlc) ?_; (case hb => first | exact ba _ | exact bdrews (ba _) _ | exact bdrews (bdrews (ba _) _) _ | exact bdrews (bdrews (bdrews (ba _) _) _) _ | exact bdrews (bdrews (bdrews (bdrews (ba _) _) _) _) _); rintro e w' ⟨rfl, hd'⟩; obtain ⟨nn, rfl⟩ := hd'.out))
  go_ret2
  refine unc_no ?_ HU.out
  repeat (with_reducible refine bdrews ?_ _)
  exact ba _
 have etn : (F.tn != 0) = false := by rw [ztn]; rfl
 by_cases zm : F.m = 0
 rotate_left
 ·
  have dm : (F.m != 0) = true := by rw [bne_iff_ne]; exact zm
  have hu : uncov ps F = false := by simp [uncov, h84, h78, h77, h65, h68, zm]
  have HU := Lib.hid hu
  clear hu
  go_enter Try.func62, Try.ntmps62
  go_wp2_with (first | (go_at_call 81; refine Calls.mono (has_any ps _ LA lc _ (by omega) (Kd.C_below HL.out ?hb) hlc) ?_; (case hb => first | exact ba _ | exact bdrews (ba _) _ | exact bdrews (bdrews (ba _) _) _ | exact bdrews (bdrews (bdrews (ba _) _) _) _ | exact bdrews (bdrews (bdrews (bdrews (ba _) _) _) _) _); rintro e w' ⟨rfl, hd'⟩; obtain ⟨nn, rfl⟩ := hd'.out))
  go_ret2
  refine unc_no ?_ HU.out
  repeat (with_reducible refine bdrews ?_ _)
  exact ba _
 have em : (F.m != 0) = false := by rw [zm]; rfl
 by_cases zname : F.name.toList.isEmpty = true
 rotate_left
 ·
  simp only [Bool.not_eq_true] at zname
  have hu : uncov ps F = false := by simp [uncov, h84, h78, h77, h65, h68, zname]
  have HU := Lib.hid hu
  clear hu
  go_enter Try.func62, Try.ntmps62
  go_wp2_with (first | (go_at_call 81; refine Calls.mono (has_any ps _ LA lc _ (by omega) (Kd.C_below HL.out ?hb) hlc) ?_; (case hb => first | exact ba _ | exact bdrews (ba _) _ | exact bdrews (bdrews (ba _) _) _ | exact bdrews (bdrews (bdrews (ba _) _) _) _ | exact bdrews (bdrews (bdrews (bdrews (ba _) _) _) _) _); rintro e w' ⟨rfl, hd'⟩; obtain ⟨nn, rfl⟩ := hd'.out))
  go_ret2
  refine unc_no ?_ HU.out
  repeat (with_reducible refine bdrews ?_ _)
  exact ba _
 have ename : F.name.toList = [] := by simpa using zname
 have hunc : uncov ps F = true := by simp [uncov, h84, h78, h77, h65, h68, ztn, zm, zname]
 have HUNC := Lib.hid hunc
 clear hunc
 have Hztn := Lib.hid ztn
 clear ztn
 have Hzm := Lib.hid zm
 clear zm
 have Hzname := Lib.hid zname
 clear zname
 go_enter Try.func62, Try.ntmps62
 go_upto_region 8 with (first | (go_at_call 81; refine Calls.mono (has_any ps _ LA lc _ (by omega) (Kd.C_below HL.out ?hb) hlc) ?_; (case hb => first | exact ba _ | exact bdrews (ba _) _ | exact bdrews (bdrews (ba _) _) _ | exact bdrews (bdrews (bdrews (ba _) _) _) _ | exact bdrews (bdrews (bdrews (bdrews (ba _) _) _) _) _); rintro e w' ⟨rfl, hd'⟩; obtain ⟨nn, rfl⟩ := hd'.out))
 generalize hW : World.drewN _ _ = w2
 have hb2 : Below w.heap.size w w2 := by
  rw [← hW]
  repeat (with_reducible refine bdrews ?_ _)
  exact ba _
 have hg2 : Blk w2 w.heap.size #[.int .i64 F.kind, .int .i64 F.tn, .int .i64 F.n, .int .i64 F.m, .string F.name, .slice A F.data.length c] 118 := by
  rw [← hW]
  exact blkNew rfl
 clear hW
 have HB2 := Lib.hid hb2
 have HG2 := Lib.hid hg2
 have hs2 := hb2.size
 have hlt2 := Blk.lt hg2
 have HC2 := Lib.hid (Kd.C_below HL.out hb2)
 clear hb2 hg2
 go_wp2_with fail
 go_loopw [11, 12] (fun bv iv wr => ∃ (i : Nat) (bs : List Int), i ≤ ps.length ∧ iv = .int .i64 (i : Int) ∧ Hid (ESt w w2 wr ps F i bv bs)) (fun _ iv _ => ps.length - (intOf iv).toNat)
 case atStart => exact ⟨0, [], by omega, rfl, Lib.hid ⟨Below.refl _ _, Kd.R_nil _ _ _ _ _, by simp, by simp⟩⟩
 case round =>
  obtain ⟨i, bs, hi, rfl, HS⟩ := hrel
  by_cases hlt : i < ps.length
  ·
   have dl : decide ((i : Int) < (ps.length : Int)) = true := by simp; omega
   obtain ⟨ad, rfl, k0, k1, k2, k3⟩ := PProtoAll.at_T129 (Kd.C_below HC2.out HS.out.below) (i : Int) (by omega) (by omega)
   have e3 : PProtoAll.rd_T129 (ps.map rp) (i : Int) = rp ps[i] := by
    unfold PProtoAll.rd_T129
    rw [Int.toNat_natCast, List.getD_eq_getElem?_getD, List.getElem?_map, List.getElem?_eq_getElem hlt]
    rfl
   rw [e3] at k0 k1 k2 k3
   rw [Int.toNat_natCast] at k0 k1 k2 k3
   have hgr := Blk.below HG2.out HS.out.below
   have HK := Lib.hid (And.intro k0 (And.intro k1 (And.intro k2 (And.intro k3 (And.intro (Blk.cell (i := 0) hgr rfl) (And.intro (Blk.cell (i := 1) hgr rfl) (And.intro (Blk.cell (i := 2) hgr rfl) (And.intro (Blk.cell (i := 3) hgr rfl) (And.intro (Blk.cell (i := 4) hgr rfl) (Blk.cell (i := 5) hgr rfl))))))))))
   have HPOK := Lib.hid (hpok ps[i] (List.getElem_mem hlt))
   have HXD : Hid (BytesAt wr.drew A F.data.length F.data) := Lib.hid (BytesAt.below (B := 0) HX.out (HB2.out.trans ((HS.out.below.trans (Below.drew (Below.refl _ _))).mono hs2)))
   have hlen := HS.out.len
   have hdr : ps.drop i = ps[i] :: ps.drop (i + 1) := List.drop_eq_getElem_cons hlt
   have HDR := Lib.hid hdr
   have hwl : fitsS ps[i] F = true → (wrS ps[i] F).length ≤ F.data.length + 21 := wrS_len ps[i] F _ rfl (hsm ps[i] (List.getElem_mem hlt))
   have HWL := Lib.hid hwl
   clear k0 k1 k2 k3 hgr e3 hdr hwl
   go_wp2_with fail
   refine start_ (n := 11) (S := fun w' => w'.cell? (ad.add (i * 4)) = some (.int .u8 (rp ps[i]).f0) ∧ w'.cell? ⟨(ad.add (i * 4)).block, (ad.add (i * 4)).off + 1, none⟩ = some (.int .u8 (rp ps[i]).f1) ∧ w'.cell? ⟨(ad.add (i * 4)).block, (ad.add (i * 4)).off + 2, none⟩ = some (.int .i64 (rp ps[i]).f2) ∧ w'.cell? ⟨(ad.add (i * 4)).block, (ad.add (i * 4)).off + 3, none⟩ = some (.int .i64 (rp ps[i]).f3) ∧ w'.cell? ⟨w.heap.size, 0, none⟩ = some (.int .i64 F.kind) ∧ w'.cell? ⟨w.heap.size, 1, none⟩ = some (.int .i64 F.tn) ∧ w'.cell? ⟨w.heap.size, 2, none⟩ = some (.int .i64 F.n) ∧ w'.cell? ⟨w.heap.size, 3, none⟩ = some (.int .i64 F.m) ∧ w'.cell? ⟨w.heap.size, 4, none⟩ = some (.string F.name) ∧ w'.cell? ⟨w.heap.size, 5, none⟩ = some (.slice A F.data.length c)) (ds := [5]) #[false, false, false, false, false, false, false, false, false, false, false] (by kernel_rfl) rfl rfl HK.out (fun hHeld => ?_)
   refine pu_ (i := 0) (N := some 77) (v := ?_) (a' := ?_) rfl rfl (by kernel_rfl) (fun _ _ _ h => h) (by rfl) ?_ ?_ ?_
   rotate_left
   · (intro w'; go_simp; with_reducible rfl)
   rotate_left
   · (simp only [put_s, List.set, i64_w, i32_w]; rfl)
   refine pu_ (i := 1) (N := some 78) (v := ?_) (a' := ?_) rfl rfl (by kernel_rfl) (fun _ _ _ h => h) (by rfl) ?_ ?_ ?_
   rotate_left
   · (intro w'; go_simp; with_reducible rfl)
   rotate_left
   · (simp only [put_s, List.set, i64_w, i32_w]; rfl)
   refine pu_ (i := 2) (N := some 79) (v := ?_) (a' := ?_) rfl rfl (by kernel_rfl) (fun _ _ _ h => h) (by rfl) ?_ ?_ ?_
   rotate_left
   · (intro w'; go_simp; with_reducible rfl)
   rotate_left
   · (simp only [put_s, List.set, i64_w, i32_w]; rfl)
   refine tk_ (i := 3) (N := some 80) (v := ?_) (a' := ?_) rfl rfl (by kernel_rfl) (fun _ _ _ h => h) (by rfl) ?_ hHeld ?_ ?_
   rotate_left
   · (intro w' s0; go_simp; with_reducible rfl)
   rotate_left
   · (simp only [put_s, List.set, i64_w, i32_w]; rfl)
   refine tk_ (i := 4) (N := some 81) (v := ?_) (a' := ?_) rfl rfl (by kernel_rfl) (fun _ _ _ h => h) (by rfl) ?_ hHeld ?_ ?_
   rotate_left
   · (intro w' s0; go_simp; with_reducible rfl)
   rotate_left
   · (simp only [put_s, List.set, i64_w, i32_w]; rfl)
   refine la_ (i := 5) (N := some 82) rfl rfl (by kernel_rfl) (by decide) (fun K hK => ?_)
   refine goesV #[] Try.func82 (by kernel_rfl) rfl #[.agg #[.int .u8 (rp ps[i]).f0, .int .u8 (rp ps[i]).f1, .int .i64 (rp ps[i]).f2, .int .i64 (rp ps[i]).f3], .agg #[.int .i64 F.kind, .int .i64 F.tn, .int .i64 F.n, .int .i64 F.m, .string F.name, .slice A F.data.length c]] (by rfl) rfl rfl rfl (by simp [Act.eval]) ?_
   refine Calls.mono (put_ok ps[i] F A c _ HPOK.out HXD.out hd hn) ?_
   rintro e w9 ⟨v9, rfl, hb9, ho9⟩
   have HB9 := Lib.hid (Below.trans (Below.drew (Below.refl wr.heap.size wr)) (hb9.mono (Nat.le_refl _)))
   have HO9 := Lib.hid ho9
   clear hb9 ho9
   refine .inl ⟨_, rfl, ?_⟩
   refine hK.out _ _ ?_
   clear hK K
   refine norm_ (a' := ?_) ?_ ?_
   rotate_left
   ·
    show Act.put _ (some 82) _ = _
    simp only [put_s, List.set, i64_w, i32_w]
    rfl
   refine pu_ (i := 6) (N := some 76) (v := ?_) (a' := ?_) rfl rfl (by kernel_rfl) (fun _ _ _ h => h) (by rfl) ?_ ?_ ?_
   rotate_left
   · (intro w'; go_simp; with_reducible rfl)
   rotate_left
   · (simp only [put_s, List.set, i64_w, i32_w]; rfl)
   refine pu_ (i := 7) (N := some 83) (v := ?_) (a' := ?_) rfl rfl (by kernel_rfl) (fun _ _ _ h => h) (by rfl) ?_ ?_ ?_
   rotate_left
   · (intro w'; go_simp; with_reducible rfl)
   rotate_left
   · (simp only [put_s, List.set, i64_w, i32_w]; rfl)
   refine pu_ (i := 8) (N := some 84) (v := ?_) (a' := ?_) rfl rfl (by kernel_rfl) (fun _ _ _ h => h) (by rfl) ?_ ?_ ?_
   rotate_left
   · (intro w'; go_simp; with_reducible rfl)
   rotate_left
   · (simp only [put_s, List.set, i64_w, i32_w]; rfl)
   refine pu_ (i := 9) (N := some 13) (v := ?_) (a' := ?_) rfl rfl (by kernel_rfl) (fun _ _ _ h => h) (by rfl) ?_ ?_ ?_
   rotate_left
   · (intro w'; go_simp; with_reducible rfl)
   rotate_left
   · (simp only [put_s, List.set, i64_w, i32_w]; rfl)
   refine pu_ (i := 10) (N := some 14) (v := ?_) (a' := ?_) rfl rfl (by kernel_rfl) (fun _ _ _ h => h) (by rfl) ?_ ?_ ?_
   rotate_left
   · (intro w'; go_simp; with_reducible rfl)
   rotate_left
   · (simp only [put_s, List.set, i64_w, i32_w]; rfl)
   refine done_ (by kernel_rfl) ?_
   cases hf : fitsS ps[i] F with
   | true =>
    rw [hf] at HO9
    have HFT := Lib.hid hf
    have hl9 := HWL.out hf
    clear hf
    obtain ⟨A10, c10, hv10, _, hr10⟩ := Kd.R_reads (HO9.out rfl)
    subst hv10
    have HR10 := Lib.hid hr10
    clear hr10
    have hbig : i * (F.data.length + 21) ≤ 3000000100 := by
     have h3 : i ≤ 3 := by omega
     calc i * (F.data.length + 21) ≤ 3 * (F.data.length + 21) := Nat.mul_le_mul_right _ h3
      _ ≤ 3000000100 := by omega
    go_wp2_with (at_builtin; refine app_bytes (w0 := w2) w2.heap.size rfl (.tmp 87) (.tmp 88) rfl u11 bs (wrS ps[i] F) A10 _ c10 (fun _ => True) rfl rfl ?ho HR10.out (fun _ _ => trivial) ?hb ?hz (by omega) ?_; (case ho => exact Kd.R_below HS.out.own HB9.out); (case hb => exact HS.out.below.trans (HB9.out.mono HS.out.below.size)); (case hz => exact Nat.le_trans HS.out.below.size HB9.out.size); intro v11 w11 ho11 hb11 hg11 hat11; have HO11 := Lib.hid ho11; have HB11 := Lib.hid hb11; clear ho11 hb11 hg11 hat11)
    refine ⟨⟨i + 1, bs ++ wrS ps[i] F, by omega, by go_num, Lib.hid ⟨HB11.out, HO11.out, ?_, ?_⟩⟩, by simp [intOf]; omega⟩
    ·
     rw [HS.out.eq, HDR.out]
     simp only [encParts]
     rw [if_pos HFT.out, Option.map_map]
     congr 1
     funext x
     simp
    ·
     rw [List.length_append, Nat.succ_mul]
     omega
   | false =>
    rw [hf] at HO9
    have HFT := Lib.hid hf
    clear hf
    go_wp2_with fail
    go_ret2
    refine tail_no (HB2.out.trans ((HS.out.below.trans (HB9.out.mono HS.out.below.size)).mono hs2)) ?_
    rw [HS.out.eq, HDR.out]
    simp only [encParts]
    rw [if_neg (by rw [HFT.out]; simp)]
    rfl
  ·
   have hi' : i = ps.length := by omega
   subst hi'
   have di : decide ((ps.length : Int) < (ps.length : Int)) = false := by simp
   have hlen := HS.out.len
   have hbig : ps.length * (F.data.length + 21) ≤ 3000000100 := by
    calc ps.length * (F.data.length + 21) ≤ 3 * (F.data.length + 21) := Nat.mul_le_mul_right _ hps3
     _ ≤ 3000000100 := by omega
   obtain ⟨A10, c10, hv10, _, hr10⟩ := Kd.R_reads HS.out.own
   subst hv10
   have HR10 := Lib.hid hr10
   have HBW := Lib.hid (HB2.out.trans (HS.out.below.mono hs2))
   have hsw := HBW.out.size
   have hee : encParts ps F = some bs := by
    rw [HS.out.eq, List.drop_of_length_le (Nat.le_refl _)]
    simp [encParts]
   have HEE := Lib.hid hee
   have HGW := Lib.hid (Blk.below HG2.out HS.out.below)
   have hcell := Blk.cell (i := 0) HGW.out rfl
   clear hr10 hee
   go_wp2_with fail
   refine (digits_ok ((1 : Int) + (bs.length : Int)) 4 (by omega) (by omega) (by omega) wr).mono ?_
   rintro e w12 ⟨v12, rfl, ho12, hb12⟩
   have HO12 := Lib.hid ho12
   have HB12 := Lib.hid hb12
   have hs12 := hb12.size
   have hc12 := Blk.cell (i := 0) (Blk.below HGW.out hb12) rfl
   have HL4 := Lib.hid (beB_len ((1 : Int) + (bs.length : Int)) 4)
   clear ho12 hb12 hcell
   go_wp2_with (first
    | ((with_reducible refine gate_builtin (b := .append) (xs := #[.tmp 94, .tmp 98]) rfl ?_); at_builtin; refine Kd.R_append (Kd.int .u8) (w0 := w) w.heap.size rfl (.tmp 94) (.tmp 98) 22 5 (.int .u8 0) 1 rfl Try.underlying22 info5 rfl (Nat.succ_pos 0) (Nat.succ_pos 0) v12 (beB ((1 : Int) + (bs.length : Int)) 4) F.kind [.int .u8 F.kind] (fun _ => True) (fun _ => False) rfl rfl ?hp ?hokp (fun _ _ => trivial) ?hrow ?hbel ?hbase ?hl ?_; (case hp => rfl); (case hokp => exact fun k hk => hk.elim); (case hrow => exact Kd.R_lower HO12.out (by omega)); (case hbel => exact HBW.out.trans (HB12.out.mono hsw)); (case hbase => omega); (case hl => rw [HL4.out]; omega); intro v13 w13 hr13 hb13 hg13 hat13; have HR13 := Lib.hid hr13; have HB13 := Lib.hid hb13; have HG13 := Lib.hid hg13; clear hr13 hb13 hg13 hat13)
    | ((with_reducible refine gate_builtin (b := .append) (xs := #[.tmp 100, .tmp 101]) rfl ?_); at_builtin; refine app_bytes (w0 := w) w.heap.size rfl (.tmp 100) (.tmp 101) rfl v13 (beB ((1 : Int) + (bs.length : Int)) 4 ++ [F.kind]) bs A10 bs.length c10 (fun _ => True) rfl rfl ?ho ?hr (fun _ _ => trivial) ?hbel ?hbase ?hl ?_; (case ho => exact HR13.out); (case hr => exact grown_old HR10.out HB12.out HO12.out HG13.out); (case hbel => exact HB13.out); (case hbase => exact HB13.out.size); (case hl => rw [List.length_append, HL4.out]; simp; omega); intro v14 w14 ho14 hb14 hg14 hat14; have HO14 := Lib.hid ho14; have HB14 := Lib.hid hb14; clear ho14 hb14 hg14 hat14))
   go_ret2
   refine tail_out HUNC.out HB14.out HEE.out ?_
   have h := HO14.out
   rw [List.append_assoc] at h
   exact h
end Go.Proofs.Ytpflenaoplblkaa.PaC
end
