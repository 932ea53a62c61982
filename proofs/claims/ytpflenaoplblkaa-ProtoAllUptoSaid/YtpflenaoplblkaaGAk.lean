import Derived.ArgAppend
import Derived.Deep.Upon
import Derived.Test.YtpflenaoplblkaaGAj
section
namespace Go.Proofs.Ytpflenaoplblkaa.PaG
open Go.RowKit YtpflenaoplblkaaW.PrintWords YtpflenaoplblkaaW.PrintLast ProA ProB ProC ProI ProD ProG ProJ ProK ProL ProM ProN ProO ProP ProQ ProR ProU ProZ ProBb PaA
open ProH (msgTab repTab ba)
open PaB PaC PaD PaE PaF
set_option linter.unusedVariables false
set_option linter.unusedSimpArgs false
abbrev FfAt (w : World) (f : Nat) (F : Flds) (dv : Value) : Prop := Blk w f (F.cells dv) 118
theorem ff_set6 {W : World} {g : Nat} {F F' : Flds} {dv dv' : Value} (h : FfAt W g F dv) : FfAt ((((((W.setCell ⟨g, 0, none⟩ (.int .i64 F'.kind)).setCell ⟨g, 1, none⟩ (.int .i64 F'.tn)).setCell ⟨g, 2, none⟩ (.int .i64 F'.n)).setCell ⟨g, 3, none⟩ (.int .i64 F'.m)).setCell ⟨g, 4, none⟩ (.string F'.name)).setCell ⟨g, 5, none⟩ dv') g F' dv' := by
 have h1 := Blk.set (i := 5) (Blk.set (i := 4) (Blk.set (i := 3) (Blk.set (i := 2) (Blk.set (i := 1) (Blk.set (i := 0) h (.int .i64 F'.kind)) (.int .i64 F'.tn)) (.int .i64 F'.n)) (.int .i64 F'.m)) (.string F'.name)) dv'
 exact h1
theorem ffCells {w : World} {f : Nat} {F : Flds} {dv : Value} (h : FfAt w f F dv) : w.cell? ⟨f, 0, none⟩ = some (.int .i64 F.kind) ∧ w.cell? ⟨f, 1, none⟩ = some (.int .i64 F.tn) ∧ w.cell? ⟨f, 2, none⟩ = some (.int .i64 F.n) ∧ w.cell? ⟨f, 3, none⟩ = some (.int .i64 F.m) ∧ w.cell? ⟨f, 4, none⟩ = some (.string F.name) ∧ w.cell? ⟨f, 5, none⟩ = some dv :=
  ⟨Blk.cell (i := 0) h rfl, Blk.cell (i := 1) h rfl, Blk.cell (i := 2) h rfl, Blk.cell (i := 3) h rfl, Blk.cell (i := 4) h rfl, Blk.cell (i := 5) h rfl⟩
theorem body_end {R : Ending → World → Prop} (T : Array Value) (f : Nat) (code : Int) (h4 : T[4]?.getD undef = pt f) (h5 : T[5]?.getD undef = .int .i64 code) (W : World) (F : Flds) (dv : Value) (hf : FfAt W f F dv)
  (hR : R (.returned (.tuple #[.agg (Flds.cells F dv), .int .i64 code])) W) :
  bodyPost Try.prog Try.f87 R Exit.ret { tmps := T, defers := [] } W := by
 obtain ⟨c0, c1, c2, c3, c4, c5⟩ := ffCells hf
 exact bodyPost_ret (v := .tuple #[.agg (Flds.cells F dv), .int .i64 code]) (by simp [results, Try.results87, go_sem, h4, h5, c0, c1, c2, c3, c4, c5, Flds.cells]) rfl hR
def BodyPost (w : World) (r : Except Int Flds) (e : Ending) (w' : World) : Prop :=
 ∃ (F : Flds) (dv : Value) (code : Int), e = .returned (.tuple #[.agg (Flds.cells F dv), .int .i64 code]) ∧ Below w.heap.size w w' ∧ (∃ B m c, dv = .slice B m c) ∧
  match r with | .error q => code = q | .ok F' => code = 0 ∧ F' = F ∧ Own w' w.heap.size (fun _ => True) dv F.data
structure BSt (w W2 wr : World) (g0 g1 : Nat) (k : Int) (ps : List PS) (xs ys : List Int) (A : Option Addr) (c : Nat) (F : Flds) (dv : Value) (i : Nat) : Prop where
 below : Below w.heap.size w wr
 tu : Tu [g1] W2 wr
 f1 : FfAt wr g1 F dv
 f0 : ∃ F0 dv0, FfAt wr g0 F0 dv0
 own : Own wr w.heap.size (fun q => q ≠ g1) dv F.data
 eq : decParts ps xs (fd0 k) = decParts (ps.drop i) ys F
 read : BytesAt w A ys.length ys
 cap : ys.length ≤ c
 u8 : u8s ys
 len : ys.length ≤ xs.length
 nodat : 4 ∉ (ps.take i).map fdOf → dv = .slice none 0 0 ∧ F.data = []
theorem slice_of {w : World} {base : Nat} {ok : Nat → Prop} {v : Value} {xs : List Int} (h : Own w base ok v xs) : ∃ B m c, v = .slice B m c := by
 obtain ⟨A, c, hv, _⟩ := Kd.R_reads h
 exact ⟨A, _, c, hv⟩
theorem tu_set6' (W : World) (g : Nat) (F' : Flds) (dv' : Value) : Tu [g] W ((((((W.setCell ⟨g, 0, none⟩ (.int .i64 F'.kind)).setCell ⟨g, 1, none⟩ (.int .i64 F'.tn)).setCell ⟨g, 2, none⟩ (.int .i64 F'.n)).setCell ⟨g, 3, none⟩ (.int .i64 F'.m)).setCell ⟨g, 4, none⟩ (.string F'.name)).setCell ⟨g, 5, none⟩ dv') := tu_set6 W g F' dv'
theorem decS_out {tab : List (List PS)} {xs : List Int} {k : Int} (hk : be (xs.take 1) = k) (h1 : 1 ≤ xs.length) (h0 : 0 ≤ k) (h : ¬ (1 ≤ k ∧ k < (tab.length : Int))) : decS tab xs = .error 122 := by
 unfold decS
 rw [if_neg (by omega), hk]
 cases hg : tab[k.toNat]? with
 | none => rfl
 | some ps =>
  have hlt := (List.getElem?_eq_some_iff.1 hg).1
  simp only
  rw [if_pos (by omega)]
theorem decS_in {tab : List (List PS)} {xs : List Int} {k : Int} (hk : be (xs.take 1) = k) (h1 : 1 ≤ xs.length) (h : 1 ≤ k ∧ k < (tab.length : Int)) : decS tab xs = decParts (tab.getD k.toNat []) (xs.drop 1) (fd0 k) := by
 have hlt : k.toNat < tab.length := by omega
 have hg : tab[k.toNat]? = some tab[k.toNat] := List.getElem?_eq_getElem hlt
 unfold decS
 rw [if_neg (by omega), hk, hg, List.getD_eq_getElem?_getD, hg]
 simp only [Option.getD_some]
 rw [if_neg (by omega)]
theorem body_out {w W W' : World} {F : Flds} {dv : Value} {q : Int} {r : Except Int Flds} (hr : r = .error q) (hb : Below w.heap.size w W') (hs : ∃ B m c, dv = .slice B m c) : BodyPost w r (.returned (.tuple #[.agg (Flds.cells F dv), .int .i64 q])) W' := by
 subst hr
 exact ⟨F, dv, q, rfl, hb, hs, rfl⟩
theorem row_at {wr W2 : World} {LA : Option Addr} {lc n : Nat} {l : List PProtoAll.S129} {base g : Nat} (h : Kd.R PProtoAll.k129 129 W2 base (fun _ => True) (.slice LA n lc) l) (hn : l.length = n) (ht : Tu [g] W2 wr) (hg : g < base) : Kd.C PProtoAll.k129 wr LA n l := by
 subst hn
 have h2 : Kd.R PProtoAll.k129 129 wr base _ (.slice LA l.length lc) l := Kd.R_move (Kd.R_bound h) (fun k hk => ht.block k hk.2.2.1 (fun hm => by
  simp at hm
  have := hk.2.1
  omega))
 obtain ⟨A, c, hv, _, hc⟩ := Kd.R_reads h2
 injection hv with e1 e2 e3
 subst e1
 exact hc
theorem pok_num {p : PS} (h : pok p) {o : Wh} {k : Nat} {lo hi : Int} (hp : p = .num o k lo hi) : 1 ≤ k := by
 subst hp
 obtain ⟨h, _⟩ := h
 omega
theorem own_nil_data {w : World} {base : Nat} {ok : Nat → Prop} {xs : List Int} (h : Own w base ok (.slice none 0 0) xs) : xs = [] := by
 obtain ⟨A, c, hv, _⟩ := Kd.R_reads h
 injection hv with _ h2 _
 exact List.eq_nil_of_length_eq_zero h2.symm
set_option maxHeartbeats 4000000 in
set_option maxRecDepth 100000 in
theorem body_msg (A : Option Addr) (c : Nat) (xs : List Int) (w : World) (hx : BytesAt w A xs.length xs) (hu : u8s xs) (hc : xs.length ≤ c) (h1 : 1 ≤ xs.length) (hbig : xs.length ≤ 1000000000) :
  Calls Try.prog 87 #[.slice A xs.length c, .bool false] w (BodyPost w (decS msgTab xs)) := by
 obtain ⟨ad, rfl, hcell⟩ := BytesAt.at_ hx 0 (by omega)
 have hk : be (xs.take 1) = rd xs 0 := by
  have h := be_step xs 0 (by omega)
  rw [Nat.zero_add] at h
  rw [h]
  simp [be]
 have hk0 := u8_rd hu 0
 have hz0 : ((0 : Nat) : Int) = 0 := rfl
 rw [Addr.add_zero'] at hcell
 rw [hz0] at hcell hk0
 have HX := Lib.hid hx
 have HK := Lib.hid hk
 have hw8 : wrap64 (rd xs 0) = rd xs 0 := by rw [IntWalk.wrap64_in]; omega
 have h0n : 0 < xs.length := by omega
 have HW8 := Lib.hid hw8
 clear hx hk hw8
 generalize rd xs 0 = k at hcell hk0 HK HW8
 have hcell1 : (w.alloc (.cells #[.int .i64 0, .int .i64 0, .int .i64 0, .int .i64 0, .string ⟨#[]⟩, .slice none 0 0] 118)).cell? ad = some (.int .u8 k) := ((ba (a := w) (.cells #[.int .i64 0, .int .i64 0, .int .i64 0, .int .i64 0, .string ⟨#[]⟩, .slice none 0 0] 118)).cell (World.block_lt_of_cell? w _ hcell)).trans hcell
 go_enter Try.func87, Try.ntmps87
 go_upto_region 2 with (fail)
 have hcap0 : (((w.alloc (.cells #[.int .i64 0, .int .i64 0, .int .i64 0, .int .i64 0, .string ⟨#[]⟩, .slice none 0 0] 118)).alloc (.cells #[.int .i64 k, .int .i64 0, .int .i64 0, .int .i64 0, .string ⟨#[]⟩, .slice none 0 0] 118))).heap.size = w.heap.size + 2 := by simp
 generalize hW : ((w.alloc (.cells #[.int .i64 0, .int .i64 0, .int .i64 0, .int .i64 0, .string ⟨#[]⟩, .slice none 0 0] 118)).alloc (.cells #[.int .i64 k, .int .i64 0, .int .i64 0, .int .i64 0, .string ⟨#[]⟩, .slice none 0 0] 118)) = W1 at hcap0 ⊢
 have hf1 : FfAt W1 (w.heap.size + 1) (fd0 k) (.slice none 0 0) := by rw [← hW]; exact blkNew (by simp)
 have hf0 : FfAt W1 w.heap.size (fd0 0) (.slice none 0 0) := by rw [← hW]; exact Blk.below (blkNew rfl) (ba _)
 have hb1 : Below w.heap.size w W1 := by rw [← hW]; exact (ba _).trans ((ba _).mono (by simp))
 have HB1 := Lib.hid hb1
 have HF1 := Lib.hid hf1
 have HF0 := Lib.hid hf0
 have hk1 : W1.cell? ⟨w.heap.size + 1, 0, none⟩ = some (.int .i64 k) := Blk.cell (i := 0) hf1 rfl
 have hcap1 : w.heap.size + 2 ≤ W1.heap.size := by omega
 clear hW hf1 hf0 hb1 hcell hcell1 hcap0
 have hsw : w.heap.size ≤ W1.heap.size := by omega
 have hm := message_f k
 by_cases hin : 1 ≤ k ∧ k < (msgTab.length : Int)
 ·
  rw [if_pos hin] at hm
  obtain ⟨hi1, hi2⟩ := hin
  have hmem := tab_mem msgTab k hi1 hi2
  have hres := decS_in (tab := msgTab) HK.out h1 ⟨hi1, hi2⟩
  have HRES := Lib.hid hres
  have HPOK := Lib.hid (msg_pok _ hmem)
  have HNOD := Lib.hid (msgTab_nod _ hmem)
  have HLEN := Lib.hid (ProBa.msg3 _ hmem)
  generalize msgTab.getD k.toNat [] = ps at hm hmem HPOK HNOD HLEN HRES
  have hl3 := HLEN.out
  clear hres hmem hi2
  have HM := Lib.hid hm
  clear hm
  go_wp2_with fail
  refine (PProtoAll.arcaderef12_message.calls _ _ _ _ HM.out).mono ?_
  rintro e W2 ⟨v2, rfl, hr2, hb2⟩
  obtain ⟨LA, lc, hv2, hlc, hL⟩ := Kd.R_reads hr2
  rw [List.length_map] at hv2 hlc hL
  subst hv2
  have HR2 := Lib.hid hr2
  have HB2 := Lib.hid (HB1.out.trans (hb2.mono hsw))
  have HF12 := Lib.hid (Blk.below HF1.out hb2)
  have HF02 := Lib.hid (Blk.below HF0.out hb2)
  have hsb2 := hb2.size
  clear hr2 hb2 hL
  obtain ⟨A2, hrun0, hread, hcap⟩ := drop_eq (some ad) c xs 1 (by omega) hc
  have hrun : ∀ W : World, (Instr.slice 22 (.slice (some ad) xs.length c) (some (.int .i64 1)) none none).run Try.prog W = .ok (.slice A2 (xs.drop 1).length (c - 1)) W := by rw [List.length_drop]; exact hrun0
  have hread' := hread _ HX.out
  have HRD1 : Hid (BytesAt w A2 (xs.drop 1).length (xs.drop 1)) := Lib.hid (by rw [List.length_drop]; exact hread')
  have hcap' : (xs.drop 1).length ≤ c - 1 := by rw [List.length_drop]; exact hcap
  have hdl : (xs.drop 1).length ≤ xs.length := by rw [List.length_drop]; omega
  have HU1 := Lib.hid (u8_drop hu 1)
  clear hrun0 hread hread' hcap
  generalize hys : xs.drop 1 = ys0 at hrun HRD1 hcap' hdl HU1 HRES
  have HYS := Lib.hid hys
  clear hys
  go_wp2_with fail
  go_loopw [0, 9] (fun bv iv wr => ∃ (i : Nat) (ys : List Int) (A' : Option Addr) (c' : Nat) (F : Flds) (dv : Value), i ≤ ps.length ∧ iv = .int .i64 (i : Int) ∧ bv = .slice A' ys.length c' ∧ Hid (BSt w W2 wr w.heap.size (w.heap.size + 1) k ps ys0 ys A' c' F dv i)) (fun _ iv _ => ps.length - (intOf iv).toNat)
  case atStart => exact ⟨0, ys0, A2, c - 1, fd0 k, .slice none 0 0, by omega, rfl, rfl, Lib.hid ⟨HB2.out, Tu.refl _ _, HF12.out, ⟨_, _, HF02.out⟩, Kd.R_nil _ _ _ _ _, rfl, HRD1.out, hcap', HU1.out, Nat.le_refl _, fun _ => ⟨rfl, rfl⟩⟩⟩
  case round =>
   obtain ⟨i, ys, A', c', F, dv, hi, rfl, rfl, HS⟩ := hrel
   have hylen := HS.out.len
   have hycap := HS.out.cap
   have hsr := HS.out.tu.size
   by_cases hlt : i < ps.length
   ·
    have dl : decide ((i : Int) < (ps.length : Int)) = true := by simp; omega
    obtain ⟨ld, rfl, k0, k1, k2, k3⟩ := PProtoAll.at_T129 (row_at HR2.out (by simp) HS.out.tu (by omega)) (i : Int) (by omega) (by omega)
    have e3 : PProtoAll.rd_T129 (ps.map rp) (i : Int) = rp ps[i] := by
     unfold PProtoAll.rd_T129
     rw [Int.toNat_natCast, List.getD_eq_getElem?_getD, List.getElem?_map, List.getElem?_eq_getElem hlt]
     rfl
    rw [e3] at k0 k1 k2 k3
    rw [Int.toNat_natCast] at k0 k1 k2 k3
    have hdr : ps.drop i = ps[i] :: ps.drop (i + 1) := List.drop_eq_getElem_cons hlt
    have HDR := Lib.hid hdr
    have HNI : Hid (fdOf ps[i] ∉ (ps.take i).map fdOf) := Lib.hid (fun hm => by
     have hn := HNOD.out
     have hsp : ps.map fdOf = (ps.take i).map fdOf ++ (ps.drop i).map fdOf := by rw [← List.map_append, List.take_append_drop]
     rw [hsp, List.nodup_append] at hn
     have hin : fdOf ps[i] ∈ (ps.drop i).map fdOf := List.mem_map.2 ⟨ps[i], by rw [hdr]; exact List.mem_cons_self, rfl⟩
     exact hn.2.2 _ hm _ hin rfl)
    have HDV : Hid (fdOf ps[i] = 4 → dv = .slice none 0 0 ∧ F.data = []) := Lib.hid (fun h => HS.out.nodat (h ▸ HNI.out))
    clear e3 hdr
    go_wp2_with fail
    refine (take_ok ps[i] F dv (w.heap.size + 1) A' c' ys wr w HS.out.read HS.out.u8 hycap HS.out.below (by omega) HS.out.f1 HS.out.own (by omega) (HPOK.out _ (List.getElem_mem hlt)) (fun o k lo hi h => (pok_num (HPOK.out _ (List.getElem_mem hlt)) h)) HDV.out).mono ?_
    rintro e w5 ⟨F5, dv5, rv5, code5, rfl, ht5, hf5, ho5, hm5⟩
    have HT5 := Lib.hid ht5
    have HF5 := Lib.hid hf5
    have HO5 := Lib.hid ho5
    have HM5 := Lib.hid hm5
    clear ht5 hf5 ho5 hm5
    have hb5 : Below w.heap.size w w5 := HS.out.below.trans (HT5.out.below (B := w.heap.size) HS.out.below.size (by simp))
    have HB5 := Lib.hid hb5
    obtain ⟨F0, dv0, hf0⟩ := HS.out.f0
    have HF05 := Lib.hid (Blk.tu hf0 HT5.out (by simp))
    have hs5 := hb5.size
    have heq5 := HS.out.eq
    rw [HDR.out] at heq5
    have HEQ5 := Lib.hid heq5
    clear hb5 hf0 heq5 k0 k1 k2 k3
    have hm5 := HM5.out
    clear HM5
    cases hr : rdS ps[i] ys F with
    | none =>
     rw [hr] at hm5
     obtain rfl : code5 = 121 := hm5
     have hdec : decParts ps ys0 (fd0 k) = .error 121 := by rw [HEQ5.out]; simp only [decParts]; rw [hr]
     have HDEC := Lib.hid hdec
     clear hdec hr
     obtain ⟨c0, c1, c2, c3, c4, c5⟩ := ffCells HF5.out
     obtain ⟨q0, q1, q2, q3, q4, q5⟩ := ffCells HF05.out
     have z0 := Blk.frozen (i := 0) HF05.out
     have z1 := Blk.frozen (i := 1) HF05.out
     have z2 := Blk.frozen (i := 2) HF05.out
     have z3 := Blk.frozen (i := 3) HF05.out
     have z4 := Blk.frozen (i := 4) HF05.out
     have z5 := Blk.frozen (i := 5) HF05.out
     obtain ⟨B5, m5, c5', hv5⟩ := slice_of HO5.out
     subst hv5
     go_wp2_with fail
     refine body_end _ _ 121 rfl rfl _ F5 (.slice B5 m5 c5') (ff_set6 HF05.out) ?_
     have ht := tu_set6' w5 w.heap.size F5 (.slice B5 m5 c5')
     have hbb := HB5.out.trans (ht.below (B := w.heap.size) (by omega) (by simp))
     exact body_out (W := w5) (HRES.out.trans HDEC.out) hbb ⟨_, _, _, rfl⟩
    | some x =>
     obtain ⟨F1, k1⟩ := x
     rw [hr] at hm5
     simp only at hm5
     cases hfit : fitsS ps[i] F1 with
     | false =>
      rw [if_neg (by rw [hfit]; simp)] at hm5
      subst hm5
      have hdec : decParts ps ys0 (fd0 k) = .error 123 := by rw [HEQ5.out]; simp only [decParts]; rw [hr]; simp only; rw [if_neg (by rw [hfit]; simp)]
      have HDEC := Lib.hid hdec
      clear hdec hr hfit
      obtain ⟨c0, c1, c2, c3, c4, c5⟩ := ffCells HF5.out
      obtain ⟨q0, q1, q2, q3, q4, q5⟩ := ffCells HF05.out
      have z0 := Blk.frozen (i := 0) HF05.out
      have z1 := Blk.frozen (i := 1) HF05.out
      have z2 := Blk.frozen (i := 2) HF05.out
      have z3 := Blk.frozen (i := 3) HF05.out
      have z4 := Blk.frozen (i := 4) HF05.out
      have z5 := Blk.frozen (i := 5) HF05.out
      obtain ⟨B5, m5, c5', hv5⟩ := slice_of HO5.out
      subst hv5
      go_wp2_with fail
      refine body_end _ _ 123 rfl rfl _ F5 (.slice B5 m5 c5') (ff_set6 HF05.out) ?_
      have ht := tu_set6' w5 w.heap.size F5 (.slice B5 m5 c5')
      have hbb := HB5.out.trans (ht.below (B := w.heap.size) (by omega) (by simp))
      exact body_out (W := w5) (HRES.out.trans HDEC.out) hbb ⟨_, _, _, rfl⟩
     | true =>
      rw [if_pos hfit] at hm5
      obtain ⟨rfl, rfl, ⟨A6, c6, rfl, hcap6, hrd6⟩, hdd6⟩ := hm5
      have hdec : decParts ps ys0 (fd0 k) = decParts (ps.drop (i + 1)) (ys.drop k1) F5 := by rw [HEQ5.out]; simp only [decParts]; rw [hr]; simp only; rw [if_pos hfit]
      have HDEC := Lib.hid hdec
      have HRD6 := Lib.hid hrd6
      have HDD6 := Lib.hid hdd6
      clear hdec hr hfit hrd6 hdd6
      go_wp2_with fail
      have hl6 : (ys.drop k1).length = ys.length - k1 := List.length_drop
      refine ⟨⟨i + 1, ys.drop k1, A6, c6, F5, dv5, by omega, by go_num, by rw [hl6], Lib.hid ⟨HB5.out, HS.out.tu.trans HT5.out, HF5.out, ⟨F0, dv0, HF05.out⟩, HO5.out, HDEC.out, by rw [hl6]; exact HRD6.out, by rw [hl6]; exact hcap6, u8_drop HS.out.u8 k1, by rw [hl6]; omega, ?_⟩⟩, by simp [intOf]; omega⟩
      intro hn
      rw [List.take_succ_eq_append_getElem hlt, List.map_append, List.mem_append, not_or] at hn
      obtain ⟨hn1, hn2⟩ := hn
      have hne : 4 ≠ fdOf ps[i] := by
       intro h
       apply hn2
       simp [← h]
      have hnil := HS.out.nodat hn1
      have hd5 := HDD6.out hne
      rw [hd5, hnil.1]
      have ho := HO5.out
      rw [hd5, hnil.1] at ho
      exact ⟨rfl, own_nil_data ho⟩
   ·
    have hi' : i = ps.length := by omega
    subst hi'
    have di : decide ((ps.length : Int) < (ps.length : Int)) = false := by simp
    obtain ⟨F0, dv0, hf0⟩ := HS.out.f0
    have HF05 := Lib.hid hf0
    have HF5 := Lib.hid HS.out.f1
    have HB5 := Lib.hid HS.out.below
    have hs5 := HB5.out.size
    have heq := HS.out.eq
    rw [List.drop_of_length_le (Nat.le_refl _)] at heq
    simp only [decParts] at heq
    by_cases hy : ys.length > 0
    ·
     have dy : decide ((ys.length : Int) > 0) = true := by rw [decide_eq_true_eq]; omega
     have dy2 : decide (0 < ys.length) = true := by rw [decide_eq_true_eq]; omega
     rw [if_neg (by intro h; rw [h] at hy; simp at hy)] at heq
     have HDEC := Lib.hid heq
     clear heq hf0
     obtain ⟨c0, c1, c2, c3, c4, c5⟩ := ffCells HF5.out
     obtain ⟨q0, q1, q2, q3, q4, q5⟩ := ffCells HF05.out
     have z0 := Blk.frozen (i := 0) HF05.out
     have z1 := Blk.frozen (i := 1) HF05.out
     have z2 := Blk.frozen (i := 2) HF05.out
     have z3 := Blk.frozen (i := 3) HF05.out
     have z4 := Blk.frozen (i := 4) HF05.out
     have z5 := Blk.frozen (i := 5) HF05.out
     obtain ⟨B5, m5, c5', hv5⟩ := slice_of HS.out.own
     subst hv5
     go_wp2_with fail
     refine body_end _ _ 121 rfl rfl _ F (.slice B5 m5 c5') (ff_set6 HF05.out) ?_
     have ht := tu_set6' wr w.heap.size F (.slice B5 m5 c5')
     have hbb := HB5.out.trans (ht.below (B := w.heap.size) (by omega) (by simp))
     exact body_out (W := wr) (HRES.out.trans HDEC.out) hbb ⟨_, _, _, rfl⟩
    ·
     have dy : decide ((ys.length : Int) > 0) = false := by rw [decide_eq_false_iff_not]; omega
     have dy2 : decide (0 < ys.length) = false := by rw [decide_eq_false_iff_not]; omega
     rw [if_pos (List.eq_nil_of_length_eq_zero (by omega))] at heq
     have HDEC := Lib.hid heq
     clear heq hf0
     obtain ⟨c0, c1, c2, c3, c4, c5⟩ := ffCells HF5.out
     obtain ⟨q0, q1, q2, q3, q4, q5⟩ := ffCells HF05.out
     have z0 := Blk.frozen (i := 0) HF05.out
     have z1 := Blk.frozen (i := 1) HF05.out
     have z2 := Blk.frozen (i := 2) HF05.out
     have z3 := Blk.frozen (i := 3) HF05.out
     have z4 := Blk.frozen (i := 4) HF05.out
     have z5 := Blk.frozen (i := 5) HF05.out
     obtain ⟨B5, m5, c5', hv5⟩ := slice_of HS.out.own
     subst hv5
     go_wp2_with fail
     refine body_end _ _ 0 rfl rfl _ F (.slice B5 m5 c5') (ff_set6 HF05.out) ?_
     have ht := tu_set6' wr w.heap.size F (.slice B5 m5 c5')
     have hbb := HB5.out.trans (ht.below (B := w.heap.size) (by omega) (by simp))
     rw [HRES.out, HDEC.out]
     refine ⟨F, _, 0, rfl, hbb, ⟨_, _, _, rfl⟩, rfl, rfl, ?_⟩
     refine Kd.R_mono (Kd.R_set (Kd.R_set (Kd.R_set (Kd.R_set (Kd.R_set (Kd.R_set HS.out.own HF05.out ?n0 0 _) (Blk.set (i := 0) HF05.out _) ?n1 1 _) (Blk.set (i := 1) (Blk.set (i := 0) HF05.out _) _) ?n2 2 _) (Blk.set (i := 2) (Blk.set (i := 1) (Blk.set (i := 0) HF05.out _) _) _) ?n3 3 _) (Blk.set (i := 3) (Blk.set (i := 2) (Blk.set (i := 1) (Blk.set (i := 0) HF05.out _) _) _) _) ?n4 4 _) (Blk.set (i := 4) (Blk.set (i := 3) (Blk.set (i := 2) (Blk.set (i := 1) (Blk.set (i := 0) HF05.out _) _) _) _) _) ?n5 5 _) (fun _ _ => trivial)
     all_goals
      intro q hq
      rcases List.mem_cons.1 hq with rfl | hq
      · decide
      · cases hq
 ·
  rw [if_neg hin] at hm
  have hres := decS_out (tab := msgTab) HK.out h1 hk0.1 hin
  have HRES := Lib.hid hres
  have HM := Lib.hid hm
  clear hm hres hin
  go_wp2_with fail
  refine (PProtoAll.arcaderef12_message.calls _ _ _ _ HM.out).mono ?_
  rintro e w5 ⟨v2, rfl, hr2, hb2⟩
  have HB5 := Lib.hid (HB1.out.trans (hb2.mono hsw))
  have HF5 := Lib.hid (Blk.below HF1.out hb2)
  have HF05 := Lib.hid (Blk.below HF0.out hb2)
  have hs5 := HB5.out.size
  clear hr2 hb2
  obtain ⟨c0, c1, c2, c3, c4, c5⟩ := ffCells HF5.out
  obtain ⟨q0, q1, q2, q3, q4, q5⟩ := ffCells HF05.out
  have z0 := Blk.frozen (i := 0) HF05.out
  have z1 := Blk.frozen (i := 1) HF05.out
  have z2 := Blk.frozen (i := 2) HF05.out
  have z3 := Blk.frozen (i := 3) HF05.out
  have z4 := Blk.frozen (i := 4) HF05.out
  have z5 := Blk.frozen (i := 5) HF05.out
  simp only [fd0] at c0 c1 c2 c3 c4 c5 q0 q1 q2 q3 q4 q5
  go_wp2_with fail
  refine body_end _ _ 122 rfl rfl _ (fd0 k) (.slice none 0 0) (Blk.set (i := 5) (Blk.set (i := 4) (Blk.set (i := 3) (Blk.set (i := 2) (Blk.set (i := 1) (Blk.set (i := 0) HF05.out _) _) _) _) _) _) ?_
  exact body_out (W := w5) HRES.out (HB5.out.trans (Tu.below (S := [w.heap.size]) ((((((((Tu.refl _ _).setCell (.inl (by simp)) _).setCell (.inl (by simp)) _).setCell (.inl (by simp)) _).setCell (.inl (by simp)) _).setCell (.inl (by simp)) _).setCell (.inl (by simp)) _)) (by omega) (by simp))) ⟨_, _, _, rfl⟩
set_option maxHeartbeats 4000000 in
set_option maxRecDepth 100000 in
theorem body_rep (A : Option Addr) (c : Nat) (xs : List Int) (w : World) (hx : BytesAt w A xs.length xs) (hu : u8s xs) (hc : xs.length ≤ c) (h1 : 1 ≤ xs.length) (hbig : xs.length ≤ 1000000000) :
  Calls Try.prog 87 #[.slice A xs.length c, .bool true] w (BodyPost w (decS repTab xs)) := by
 obtain ⟨ad, rfl, hcell⟩ := BytesAt.at_ hx 0 (by omega)
 have hk : be (xs.take 1) = rd xs 0 := by
  have h := be_step xs 0 (by omega)
  rw [Nat.zero_add] at h
  rw [h]
  simp [be]
 have hk0 := u8_rd hu 0
 have hz0 : ((0 : Nat) : Int) = 0 := rfl
 rw [Addr.add_zero'] at hcell
 rw [hz0] at hcell hk0
 have HX := Lib.hid hx
 have HK := Lib.hid hk
 have hw8 : wrap64 (rd xs 0) = rd xs 0 := by rw [IntWalk.wrap64_in]; omega
 have h0n : 0 < xs.length := by omega
 have HW8 := Lib.hid hw8
 clear hx hk hw8
 generalize rd xs 0 = k at hcell hk0 HK HW8
 have hcell1 : (w.alloc (.cells #[.int .i64 0, .int .i64 0, .int .i64 0, .int .i64 0, .string ⟨#[]⟩, .slice none 0 0] 118)).cell? ad = some (.int .u8 k) := ((ba (a := w) (.cells #[.int .i64 0, .int .i64 0, .int .i64 0, .int .i64 0, .string ⟨#[]⟩, .slice none 0 0] 118)).cell (World.block_lt_of_cell? w _ hcell)).trans hcell
 go_enter Try.func87, Try.ntmps87
 go_upto_region 2 with (fail)
 have hcap0 : (((w.alloc (.cells #[.int .i64 0, .int .i64 0, .int .i64 0, .int .i64 0, .string ⟨#[]⟩, .slice none 0 0] 118)).alloc (.cells #[.int .i64 k, .int .i64 0, .int .i64 0, .int .i64 0, .string ⟨#[]⟩, .slice none 0 0] 118))).heap.size = w.heap.size + 2 := by simp
 generalize hW : ((w.alloc (.cells #[.int .i64 0, .int .i64 0, .int .i64 0, .int .i64 0, .string ⟨#[]⟩, .slice none 0 0] 118)).alloc (.cells #[.int .i64 k, .int .i64 0, .int .i64 0, .int .i64 0, .string ⟨#[]⟩, .slice none 0 0] 118)) = W1 at hcap0 ⊢
 have hf1 : FfAt W1 (w.heap.size + 1) (fd0 k) (.slice none 0 0) := by rw [← hW]; exact blkNew (by simp)
 have hf0 : FfAt W1 w.heap.size (fd0 0) (.slice none 0 0) := by rw [← hW]; exact Blk.below (blkNew rfl) (ba _)
 have hb1 : Below w.heap.size w W1 := by rw [← hW]; exact (ba _).trans ((ba _).mono (by simp))
 have HB1 := Lib.hid hb1
 have HF1 := Lib.hid hf1
 have HF0 := Lib.hid hf0
 have hk1 : W1.cell? ⟨w.heap.size + 1, 0, none⟩ = some (.int .i64 k) := Blk.cell (i := 0) hf1 rfl
 have hcap1 : w.heap.size + 2 ≤ W1.heap.size := by omega
 clear hW hf1 hf0 hb1 hcell hcell1 hcap0
 obtain ⟨r1, r2, hm0⟩ : ∃ r1 r2, PProtoAll.arcaderef12_message.f k = some (r1, r2) := ⟨_, _, message_f k⟩
 have HM0 := Lib.hid hm0
 clear hm0
 go_wp2_with fail
 refine (PProtoAll.arcaderef12_message.calls _ _ _ _ HM0.out).mono ?_
 rintro e W3 ⟨v3, rfl, hr3, hb3⟩
 have HB3 := Lib.hid (HB1.out.trans (hb3.mono (by omega)))
 have HF13 := Lib.hid (Blk.below HF1.out hb3)
 have HF03 := Lib.hid (Blk.below HF0.out hb3)
 have hk3 : W3.cell? ⟨w.heap.size + 1, 0, none⟩ = some (.int .i64 k) := Blk.cell (i := 0) HF13.out rfl
 have hsw : w.heap.size ≤ W3.heap.size := by have := hb3.size; omega
 have hsw3 := hb3.size
 clear hr3 hb3
 have hm := reply_f k
 by_cases hin : 1 ≤ k ∧ k < (repTab.length : Int)
 ·
  rw [if_pos hin] at hm
  obtain ⟨hi1, hi2⟩ := hin
  have hmem := tab_mem repTab k hi1 hi2
  have hres := decS_in (tab := repTab) HK.out h1 ⟨hi1, hi2⟩
  have HRES := Lib.hid hres
  have HPOK := Lib.hid (rep_pok _ hmem)
  have HNOD := Lib.hid (repTab_nod _ hmem)
  have HLEN := Lib.hid (ProBa.rep3 _ hmem)
  generalize repTab.getD k.toNat [] = ps at hm hmem HPOK HNOD HLEN HRES
  have hl3 := HLEN.out
  clear hres hmem hi2
  have HM := Lib.hid hm
  clear hm
  go_wp2_with fail
  refine (PProtoAll.arcaderef12_reply.calls 2 _ _ _ _ HM.out).mono ?_
  rintro e W2 ⟨v2, rfl, hr2, hb2⟩
  obtain ⟨LA, lc, hv2, hlc, hL⟩ := Kd.R_reads hr2
  rw [List.length_map] at hv2 hlc hL
  subst hv2
  have HR2 := Lib.hid hr2
  have HB2 := Lib.hid (HB3.out.trans (hb2.mono hsw))
  have HF12 := Lib.hid (Blk.below HF13.out hb2)
  have HF02 := Lib.hid (Blk.below HF03.out hb2)
  have hsb2 := hb2.size
  clear hr2 hb2 hL
  obtain ⟨A2, hrun0, hread, hcap⟩ := drop_eq (some ad) c xs 1 (by omega) hc
  have hrun : ∀ W : World, (Instr.slice 22 (.slice (some ad) xs.length c) (some (.int .i64 1)) none none).run Try.prog W = .ok (.slice A2 (xs.drop 1).length (c - 1)) W := by rw [List.length_drop]; exact hrun0
  have hread' := hread _ HX.out
  have HRD1 : Hid (BytesAt w A2 (xs.drop 1).length (xs.drop 1)) := Lib.hid (by rw [List.length_drop]; exact hread')
  have hcap' : (xs.drop 1).length ≤ c - 1 := by rw [List.length_drop]; exact hcap
  have hdl : (xs.drop 1).length ≤ xs.length := by rw [List.length_drop]; omega
  have HU1 := Lib.hid (u8_drop hu 1)
  clear hrun0 hread hread' hcap
  generalize hys : xs.drop 1 = ys0 at hrun HRD1 hcap' hdl HU1 HRES
  have HYS := Lib.hid hys
  clear hys
  go_wp2_with fail
  go_loopw [0, 9] (fun bv iv wr => ∃ (i : Nat) (ys : List Int) (A' : Option Addr) (c' : Nat) (F : Flds) (dv : Value), i ≤ ps.length ∧ iv = .int .i64 (i : Int) ∧ bv = .slice A' ys.length c' ∧ Hid (BSt w W2 wr w.heap.size (w.heap.size + 1) k ps ys0 ys A' c' F dv i)) (fun _ iv _ => ps.length - (intOf iv).toNat)
  case atStart => exact ⟨0, ys0, A2, c - 1, fd0 k, .slice none 0 0, by omega, rfl, rfl, Lib.hid ⟨HB2.out, Tu.refl _ _, HF12.out, ⟨_, _, HF02.out⟩, Kd.R_nil _ _ _ _ _, rfl, HRD1.out, hcap', HU1.out, Nat.le_refl _, fun _ => ⟨rfl, rfl⟩⟩⟩
  case round =>
   obtain ⟨i, ys, A', c', F, dv, hi, rfl, rfl, HS⟩ := hrel
   have hylen := HS.out.len
   have hycap := HS.out.cap
   have hsr := HS.out.tu.size
   by_cases hlt : i < ps.length
   ·
    have dl : decide ((i : Int) < (ps.length : Int)) = true := by simp; omega
    obtain ⟨ld, rfl, k0, k1, k2, k3⟩ := PProtoAll.at_T129 (row_at HR2.out (by simp) HS.out.tu (by omega)) (i : Int) (by omega) (by omega)
    have e3 : PProtoAll.rd_T129 (ps.map rp) (i : Int) = rp ps[i] := by
     unfold PProtoAll.rd_T129
     rw [Int.toNat_natCast, List.getD_eq_getElem?_getD, List.getElem?_map, List.getElem?_eq_getElem hlt]
     rfl
    rw [e3] at k0 k1 k2 k3
    rw [Int.toNat_natCast] at k0 k1 k2 k3
    have hdr : ps.drop i = ps[i] :: ps.drop (i + 1) := List.drop_eq_getElem_cons hlt
    have HDR := Lib.hid hdr
    have HNI : Hid (fdOf ps[i] ∉ (ps.take i).map fdOf) := Lib.hid (fun hm => by
     have hn := HNOD.out
     have hsp : ps.map fdOf = (ps.take i).map fdOf ++ (ps.drop i).map fdOf := by rw [← List.map_append, List.take_append_drop]
     rw [hsp, List.nodup_append] at hn
     have hin : fdOf ps[i] ∈ (ps.drop i).map fdOf := List.mem_map.2 ⟨ps[i], by rw [hdr]; exact List.mem_cons_self, rfl⟩
     exact hn.2.2 _ hm _ hin rfl)
    have HDV : Hid (fdOf ps[i] = 4 → dv = .slice none 0 0 ∧ F.data = []) := Lib.hid (fun h => HS.out.nodat (h ▸ HNI.out))
    clear e3 hdr
    go_wp2_with fail
    refine (take_ok ps[i] F dv (w.heap.size + 1) A' c' ys wr w HS.out.read HS.out.u8 hycap HS.out.below (by omega) HS.out.f1 HS.out.own (by omega) (HPOK.out _ (List.getElem_mem hlt)) (fun o k lo hi h => (pok_num (HPOK.out _ (List.getElem_mem hlt)) h)) HDV.out).mono ?_
    rintro e w5 ⟨F5, dv5, rv5, code5, rfl, ht5, hf5, ho5, hm5⟩
    have HT5 := Lib.hid ht5
    have HF5 := Lib.hid hf5
    have HO5 := Lib.hid ho5
    have HM5 := Lib.hid hm5
    clear ht5 hf5 ho5 hm5
    have hb5 : Below w.heap.size w w5 := HS.out.below.trans (HT5.out.below (B := w.heap.size) HS.out.below.size (by simp))
    have HB5 := Lib.hid hb5
    obtain ⟨F0, dv0, hf0⟩ := HS.out.f0
    have HF05 := Lib.hid (Blk.tu hf0 HT5.out (by simp))
    have hs5 := hb5.size
    have heq5 := HS.out.eq
    rw [HDR.out] at heq5
    have HEQ5 := Lib.hid heq5
    clear hb5 hf0 heq5 k0 k1 k2 k3
    have hm5 := HM5.out
    clear HM5
    cases hr : rdS ps[i] ys F with
    | none =>
     rw [hr] at hm5
     obtain rfl : code5 = 121 := hm5
     have hdec : decParts ps ys0 (fd0 k) = .error 121 := by rw [HEQ5.out]; simp only [decParts]; rw [hr]
     have HDEC := Lib.hid hdec
     clear hdec hr
     obtain ⟨c0, c1, c2, c3, c4, c5⟩ := ffCells HF5.out
     obtain ⟨q0, q1, q2, q3, q4, q5⟩ := ffCells HF05.out
     have z0 := Blk.frozen (i := 0) HF05.out
     have z1 := Blk.frozen (i := 1) HF05.out
     have z2 := Blk.frozen (i := 2) HF05.out
     have z3 := Blk.frozen (i := 3) HF05.out
     have z4 := Blk.frozen (i := 4) HF05.out
     have z5 := Blk.frozen (i := 5) HF05.out
     obtain ⟨B5, m5, c5', hv5⟩ := slice_of HO5.out
     subst hv5
     go_wp2_with fail
     refine body_end _ _ 121 rfl rfl _ F5 (.slice B5 m5 c5') (ff_set6 HF05.out) ?_
     have ht := tu_set6' w5 w.heap.size F5 (.slice B5 m5 c5')
     have hbb := HB5.out.trans (ht.below (B := w.heap.size) (by omega) (by simp))
     exact body_out (W := w5) (HRES.out.trans HDEC.out) hbb ⟨_, _, _, rfl⟩
    | some x =>
     obtain ⟨F1, k1⟩ := x
     rw [hr] at hm5
     simp only at hm5
     cases hfit : fitsS ps[i] F1 with
     | false =>
      rw [if_neg (by rw [hfit]; simp)] at hm5
      subst hm5
      have hdec : decParts ps ys0 (fd0 k) = .error 123 := by rw [HEQ5.out]; simp only [decParts]; rw [hr]; simp only; rw [if_neg (by rw [hfit]; simp)]
      have HDEC := Lib.hid hdec
      clear hdec hr hfit
      obtain ⟨c0, c1, c2, c3, c4, c5⟩ := ffCells HF5.out
      obtain ⟨q0, q1, q2, q3, q4, q5⟩ := ffCells HF05.out
      have z0 := Blk.frozen (i := 0) HF05.out
      have z1 := Blk.frozen (i := 1) HF05.out
      have z2 := Blk.frozen (i := 2) HF05.out
      have z3 := Blk.frozen (i := 3) HF05.out
      have z4 := Blk.frozen (i := 4) HF05.out
      have z5 := Blk.frozen (i := 5) HF05.out
      obtain ⟨B5, m5, c5', hv5⟩ := slice_of HO5.out
      subst hv5
      go_wp2_with fail
      refine body_end _ _ 123 rfl rfl _ F5 (.slice B5 m5 c5') (ff_set6 HF05.out) ?_
      have ht := tu_set6' w5 w.heap.size F5 (.slice B5 m5 c5')
      have hbb := HB5.out.trans (ht.below (B := w.heap.size) (by omega) (by simp))
      exact body_out (W := w5) (HRES.out.trans HDEC.out) hbb ⟨_, _, _, rfl⟩
     | true =>
      rw [if_pos hfit] at hm5
      obtain ⟨rfl, rfl, ⟨A6, c6, rfl, hcap6, hrd6⟩, hdd6⟩ := hm5
      have hdec : decParts ps ys0 (fd0 k) = decParts (ps.drop (i + 1)) (ys.drop k1) F5 := by rw [HEQ5.out]; simp only [decParts]; rw [hr]; simp only; rw [if_pos hfit]
      have HDEC := Lib.hid hdec
      have HRD6 := Lib.hid hrd6
      have HDD6 := Lib.hid hdd6
      clear hdec hr hfit hrd6 hdd6
      go_wp2_with fail
      have hl6 : (ys.drop k1).length = ys.length - k1 := List.length_drop
      refine ⟨⟨i + 1, ys.drop k1, A6, c6, F5, dv5, by omega, by go_num, by rw [hl6], Lib.hid ⟨HB5.out, HS.out.tu.trans HT5.out, HF5.out, ⟨F0, dv0, HF05.out⟩, HO5.out, HDEC.out, by rw [hl6]; exact HRD6.out, by rw [hl6]; exact hcap6, u8_drop HS.out.u8 k1, by rw [hl6]; omega, ?_⟩⟩, by simp [intOf]; omega⟩
      intro hn
      rw [List.take_succ_eq_append_getElem hlt, List.map_append, List.mem_append, not_or] at hn
      obtain ⟨hn1, hn2⟩ := hn
      have hne : 4 ≠ fdOf ps[i] := by
       intro h
       apply hn2
       simp [← h]
      have hnil := HS.out.nodat hn1
      have hd5 := HDD6.out hne
      rw [hd5, hnil.1]
      have ho := HO5.out
      rw [hd5, hnil.1] at ho
      exact ⟨rfl, own_nil_data ho⟩
   ·
    have hi' : i = ps.length := by omega
    subst hi'
    have di : decide ((ps.length : Int) < (ps.length : Int)) = false := by simp
    obtain ⟨F0, dv0, hf0⟩ := HS.out.f0
    have HF05 := Lib.hid hf0
    have HF5 := Lib.hid HS.out.f1
    have HB5 := Lib.hid HS.out.below
    have hs5 := HB5.out.size
    have heq := HS.out.eq
    rw [List.drop_of_length_le (Nat.le_refl _)] at heq
    simp only [decParts] at heq
    by_cases hy : ys.length > 0
    ·
     have dy : decide ((ys.length : Int) > 0) = true := by rw [decide_eq_true_eq]; omega
     have dy2 : decide (0 < ys.length) = true := by rw [decide_eq_true_eq]; omega
     rw [if_neg (by intro h; rw [h] at hy; simp at hy)] at heq
     have HDEC := Lib.hid heq
     clear heq hf0
     obtain ⟨c0, c1, c2, c3, c4, c5⟩ := ffCells HF5.out
     obtain ⟨q0, q1, q2, q3, q4, q5⟩ := ffCells HF05.out
     have z0 := Blk.frozen (i := 0) HF05.out
     have z1 := Blk.frozen (i := 1) HF05.out
     have z2 := Blk.frozen (i := 2) HF05.out
     have z3 := Blk.frozen (i := 3) HF05.out
     have z4 := Blk.frozen (i := 4) HF05.out
     have z5 := Blk.frozen (i := 5) HF05.out
     obtain ⟨B5, m5, c5', hv5⟩ := slice_of HS.out.own
     subst hv5
     go_wp2_with fail
     refine body_end _ _ 121 rfl rfl _ F (.slice B5 m5 c5') (ff_set6 HF05.out) ?_
     have ht := tu_set6' wr w.heap.size F (.slice B5 m5 c5')
     have hbb := HB5.out.trans (ht.below (B := w.heap.size) (by omega) (by simp))
     exact body_out (W := wr) (HRES.out.trans HDEC.out) hbb ⟨_, _, _, rfl⟩
    ·
     have dy : decide ((ys.length : Int) > 0) = false := by rw [decide_eq_false_iff_not]; omega
     have dy2 : decide (0 < ys.length) = false := by rw [decide_eq_false_iff_not]; omega
     rw [if_pos (List.eq_nil_of_length_eq_zero (by omega))] at heq
     have HDEC := Lib.hid heq
     clear heq hf0
     obtain ⟨c0, c1, c2, c3, c4, c5⟩ := ffCells HF5.out
     obtain ⟨q0, q1, q2, q3, q4, q5⟩ := ffCells HF05.out
     have z0 := Blk.frozen (i := 0) HF05.out
     have z1 := Blk.frozen (i := 1) HF05.out
     have z2 := Blk.frozen (i := 2) HF05.out
     have z3 := Blk.frozen (i := 3) HF05.out
     have z4 := Blk.frozen (i := 4) HF05.out
     have z5 := Blk.frozen (i := 5) HF05.out
     obtain ⟨B5, m5, c5', hv5⟩ := slice_of HS.out.own
     subst hv5
     go_wp2_with fail
     refine body_end _ _ 0 rfl rfl _ F (.slice B5 m5 c5') (ff_set6 HF05.out) ?_
     have ht := tu_set6' wr w.heap.size F (.slice B5 m5 c5')
     have hbb := HB5.out.trans (ht.below (B := w.heap.size) (by omega) (by simp))
     rw [HRES.out, HDEC.out]
     refine ⟨F, _, 0, rfl, hbb, ⟨_, _, _, rfl⟩, rfl, rfl, ?_⟩
     refine Kd.R_mono (Kd.R_set (Kd.R_set (Kd.R_set (Kd.R_set (Kd.R_set (Kd.R_set HS.out.own HF05.out ?n0 0 _) (Blk.set (i := 0) HF05.out _) ?n1 1 _) (Blk.set (i := 1) (Blk.set (i := 0) HF05.out _) _) ?n2 2 _) (Blk.set (i := 2) (Blk.set (i := 1) (Blk.set (i := 0) HF05.out _) _) _) ?n3 3 _) (Blk.set (i := 3) (Blk.set (i := 2) (Blk.set (i := 1) (Blk.set (i := 0) HF05.out _) _) _) _) ?n4 4 _) (Blk.set (i := 4) (Blk.set (i := 3) (Blk.set (i := 2) (Blk.set (i := 1) (Blk.set (i := 0) HF05.out _) _) _) _) _) ?n5 5 _) (fun _ _ => trivial)
     all_goals
      intro q hq
      rcases List.mem_cons.1 hq with rfl | hq
      · decide
      · cases hq
 ·
  rw [if_neg hin] at hm
  have hres := decS_out (tab := repTab) HK.out h1 hk0.1 hin
  have HRES := Lib.hid hres
  have HM := Lib.hid hm
  clear hm hres hin
  go_wp2_with fail
  refine (PProtoAll.arcaderef12_reply.calls 2 _ _ _ _ HM.out).mono ?_
  rintro e w5 ⟨v2, rfl, hr2, hb2⟩
  have HB5 := Lib.hid (HB3.out.trans (hb2.mono hsw))
  have HF5 := Lib.hid (Blk.below HF13.out hb2)
  have HF05 := Lib.hid (Blk.below HF03.out hb2)
  have hs5 := HB5.out.size
  clear hr2 hb2
  obtain ⟨c0, c1, c2, c3, c4, c5⟩ := ffCells HF5.out
  obtain ⟨q0, q1, q2, q3, q4, q5⟩ := ffCells HF05.out
  have z0 := Blk.frozen (i := 0) HF05.out
  have z1 := Blk.frozen (i := 1) HF05.out
  have z2 := Blk.frozen (i := 2) HF05.out
  have z3 := Blk.frozen (i := 3) HF05.out
  have z4 := Blk.frozen (i := 4) HF05.out
  have z5 := Blk.frozen (i := 5) HF05.out
  simp only [fd0] at c0 c1 c2 c3 c4 c5 q0 q1 q2 q3 q4 q5
  go_wp2_with fail
  refine body_end _ _ 122 rfl rfl _ (fd0 k) (.slice none 0 0) (Blk.set (i := 5) (Blk.set (i := 4) (Blk.set (i := 3) (Blk.set (i := 2) (Blk.set (i := 1) (Blk.set (i := 0) HF05.out _) _) _) _) _) _) ?_
  exact body_out (W := w5) HRES.out (HB5.out.trans (Tu.below (S := [w.heap.size]) ((((((((Tu.refl _ _).setCell (.inl (by simp)) _).setCell (.inl (by simp)) _).setCell (.inl (by simp)) _).setCell (.inl (by simp)) _).setCell (.inl (by simp)) _).setCell (.inl (by simp)) _)) (by omega) (by simp))) ⟨_, _, _, rfl⟩
end Go.Proofs.Ytpflenaoplblkaa.PaG
end
section
namespace Go.Proofs.Ytpflenaoplblkaa.PaH
open Go.RowKit YtpflenaoplblkaaW.PrintWords YtpflenaoplblkaaW.PrintLast ProA ProB ProC ProI ProD ProG ProJ ProK ProL ProM ProN ProO ProP ProQ ProR ProU ProZ ProBb PaA
open ProH (msgTab repTab ba)
open PaB PaC PaD PaE PaF PaG
set_option linter.unusedVariables false
set_option linter.unusedSimpArgs false
theorem frame_end {R : Ending → World → Prop} (T : Array Value) (f : Nat) (size code : Int) (h4 : T[4]?.getD undef = pt f) (h5 : T[5]?.getD undef = .int .i64 size) (h6 : T[6]?.getD undef = .int .i64 code) (W : World) (F : Flds) (dv : Value) (hf : FfAt W f F dv)
  (hR : R (.returned (.tuple #[.agg (Flds.cells F dv), .int .i64 size, .int .i64 code])) W) :
  bodyPost Try.prog Try.f80 R Exit.ret { tmps := T, defers := [] } W := by
 obtain ⟨c0, c1, c2, c3, c4, c5⟩ := ffCells hf
 exact bodyPost_ret (v := .tuple #[.agg (Flds.cells F dv), .int .i64 size, .int .i64 code]) (by simp [results, Try.results80, go_sem, h4, h5, h6, c0, c1, c2, c3, c4, c5, Flds.cells]) rfl hR
theorem tu_six (W : World) (g : Nat) (v0 v1 v2 v3 v4 v5 : Value) : Tu [g] W ((((((W.setCell ⟨g, 0, none⟩ v0).setCell ⟨g, 1, none⟩ v1).setCell ⟨g, 2, none⟩ v2).setCell ⟨g, 3, none⟩ v3).setCell ⟨g, 4, none⟩ v4).setCell ⟨g, 5, none⟩ v5) :=
  ((((((Tu.refl _ _).setCell (.inl (by simp)) _).setCell (.inl (by simp)) _).setCell (.inl (by simp)) _).setCell (.inl (by simp)) _).setCell (.inl (by simp)) _).setCell (.inl (by simp)) _
theorem set_six {W : World} {g : Nat} {F : Flds} {dv : Value} (h : FfAt W g F dv) : FfAt ((((((W.setCell ⟨g, 0, none⟩ (.int .i64 0)).setCell ⟨g, 1, none⟩ (.int .i64 0)).setCell ⟨g, 2, none⟩ (.int .i64 0)).setCell ⟨g, 3, none⟩ (.int .i64 0)).setCell ⟨g, 4, none⟩ (.string ⟨#[]⟩)).setCell ⟨g, 5, none⟩ (.slice none 0 0)) g (fd0 0) (.slice none 0 0) :=
  Blk.set (i := 5) (Blk.set (i := 4) (Blk.set (i := 3) (Blk.set (i := 2) (Blk.set (i := 1) (Blk.set (i := 0) h _) _) _) _) _) _
set_option maxHeartbeats 4000000 in
set_option maxRecDepth 100000 in
theorem frame_msg (A : Option Addr) (c : Nat) (xs : List Int) (w : World) (hx : BytesAt w A xs.length xs) (hu : u8s xs) (hc : xs.length ≤ c) (hbig : xs.length ≤ 1000000000) :
  Calls Try.prog 80 #[.slice A xs.length c, .bool false] w (CutPost w (cutS msgTab xs)) := by
 have HX := Lib.hid hx
 clear hx
 by_cases h4 : xs.length < 4
 ·
  have d1 : decide ((xs.length : Int) < 4) = true := by rw [decide_eq_true_eq]; omega
  have HR := Lib.hid (show cutS msgTab xs = .ok none by unfold cutS; rw [if_pos (by omega)])
  go_enter Try.func80, Try.ntmps80
  go_wp2_with fail
  exact frame_end _ _ 0 0 rfl rfl rfl _ (fd0 0) (.slice none 0 0) (blkNew rfl) (cut_wait HR.out (by go_grown))
 ·
  have d1 : decide ((xs.length : Int) < 4) = false := by rw [decide_eq_false_iff_not]; omega
  have HTK := Lib.hid (take_read HX.out 4 (by omega))
  have HUT := Lib.hid (u8_take hu 4)
  have HK := Lib.hid (len1_eq hu 4)
  generalize hK : len1 xs 4 = k at HK
  have HKK := Lib.hid hK
  clear hK
  go_enter Try.func80, Try.ntmps80
  go_wp2_with fail
  refine (number_ok A 4 c (xs.take 4) _ (BytesAt.below (B := 0) HTK.out (ba _)) (by omega) HUT.out (by omega)).mono ?_
  rw [HK.out]
  rintro e w2 ⟨rfl, hd2⟩
  have hb2 : Below w.heap.size w w2 := (ba _).trans (hd2.below.mono (by simp))
  have hf2 : FfAt w2 w.heap.size (fd0 0) (.slice none 0 0) := Blk.below (blkNew (w := w) rfl) hd2.below
  have hs1 : w.heap.size + 1 ≤ w2.heap.size := by have := hd2.below.size; simp at this; omega
  have HB2 := Lib.hid hb2
  have HF2 := Lib.hid hf2
  have hs2 := hb2.size
  clear hd2 hb2
  obtain ⟨c0, c1, c2, c3, c4, c5⟩ := ffCells hf2
  have z0 := Blk.frozen (i := 0) hf2
  have z1 := Blk.frozen (i := 1) hf2
  have z2 := Blk.frozen (i := 2) hf2
  have z3 := Blk.frozen (i := 3) hf2
  have z4 := Blk.frozen (i := 4) hf2
  have z5 := Blk.frozen (i := 5) hf2
  simp only [fd0] at c0 c1 c2 c3 c4
  clear hf2
  by_cases q1 : (k : Int) < 1
  ·
   have d2 : decide ((k : Int) < 1) = true := by simpa using q1
   have HR := Lib.hid (show cutS msgTab xs = .error 121 by unfold cutS; rw [if_neg (by omega), if_pos (by rw [HK.out]; omega)])
   go_wp2_with fail
   exact frame_end _ _ 0 121 rfl rfl rfl _ (fd0 0) (.slice none 0 0) (set_six HF2.out) (cut_err HR.out (HB2.out.trans ((tu_six w2 w.heap.size _ _ _ _ _ _).below (by omega) (by simp))))
  ·
   have d2 : decide ((k : Int) < 1) = false := by simpa using q1
   by_cases q2 : (262400 : Int) < (k : Int)
   ·
    have d3 : decide ((k : Int) > 262400) = true := by simpa using q2
    have HR := Lib.hid (show cutS msgTab xs = .error 121 by unfold cutS; rw [if_neg (by omega), if_pos (by rw [HK.out]; omega)])
    go_wp2_with fail
    exact frame_end _ _ 0 121 rfl rfl rfl _ (fd0 0) (.slice none 0 0) (set_six HF2.out) (cut_err HR.out (HB2.out.trans ((tu_six w2 w.heap.size _ _ _ _ _ _).below (by omega) (by simp))))
   ·
    have d3 : decide ((k : Int) > 262400) = false := by simpa using q2
    by_cases q3 : xs.length < 4 + k
    ·
     have d4 : decide ((xs.length : Int) < 4 + (k : Int)) = true := by simp; omega
     have HR := Lib.hid (show cutS msgTab xs = .ok none by unfold cutS; rw [if_neg (by omega), if_neg (by rw [HK.out]; omega), if_pos (by rw [HKK.out]; omega)])
     go_wp2_with fail
     exact frame_end _ _ 0 0 rfl rfl rfl _ (fd0 0) (.slice none 0 0) (set_six HF2.out) (cut_wait HR.out (HB2.out.trans ((tu_six w2 w.heap.size _ _ _ _ _ _).below (by omega) (by simp))))
    ·
     have d4 : decide ((xs.length : Int) < 4 + (k : Int)) = false := by simp; omega
     obtain ⟨i5, hi5, hz5⟩ := info5'
     obtain ⟨A', hrun, hread, hcap⟩ := print_mid_int (P := Try.prog) (k := .u8) 22 5 Try.underlying22 hi5 hz5 A c xs 4 (4 + (k : Int)) (by omega) (by omega) (by omega) hc
     have hcut : (xs.take ((4 + (k : Int)).toNat)).drop (4 : Int).toNat = (xs.drop 4).take k := by
      rw [show (4 + (k : Int)).toNat = 4 + k by omega, show (4 : Int).toNat = 4 from rfl, List.drop_take]
      congr 1
      omega
     rw [hcut] at hrun hread hcap
     have hl2 : ((xs.drop 4).take k).length = k := by simp; omega
     rw [hl2] at hrun hread hcap
     have HRD : Hid (BytesAt w2 A' ((xs.drop 4).take k).length ((xs.drop 4).take k)) := Lib.hid (by rw [hl2]; exact BytesAt.of (hread w2 (BytesAt.nums (BytesAt.below (B := 0) HX.out HB2.out))))
     have hbody := body_msg A' (c - 4) ((xs.drop 4).take k) w2 HRD.out (u8_take (u8_drop hu 4) k) (by omega) (by omega) (by omega)
     rw [hl2] at hbody
     have HBODY := Lib.hid hbody
     clear hread hcut hl2 hi5 hz5 hbody
     clear c0 c1 c2 c3 c4 c5 z0 z1 z2 z3 z4 z5
     go_wp2_with fail
     refine HBODY.out.mono ?_
     rintro e w3 ⟨F, dv3, code, rfl, hb3, ⟨B, m, c', rfl⟩, hcase⟩
     have HB3 := Lib.hid (HB2.out.trans (hb3.mono hs2))
     have HF3 := Lib.hid (Blk.below HF2.out hb3)
     have hs3 := hb3.size
     have HC := Lib.hid hcase
     clear hb3 hcase
     unfold Flds.cells
     go_upto_region 9 with (fail)
     generalize hW : w3.alloc (.cells #[.int .i64 F.kind, .int .i64 F.tn, .int .i64 F.n, .int .i64 F.m, .string F.name, .slice B m c'] 118) = W4
     have hf4 : FfAt W4 w3.heap.size F (.slice B m c') := by rw [← hW]; exact blkNew rfl
     have hg4 : FfAt W4 w.heap.size (fd0 0) (.slice none 0 0) := by rw [← hW]; exact Blk.below HF3.out (ba _)
     have hb4 : Below w3.heap.size w3 W4 := by rw [← hW]; exact ba _
     clear hW
     obtain ⟨e0, e1, e2, e3, e4, e5⟩ := ffCells hf4
     obtain ⟨c0, c1, c2, c3, c4, c5⟩ := ffCells hg4
     have z0 := Blk.frozen (i := 0) hg4
     have z1 := Blk.frozen (i := 1) hg4
     have z2 := Blk.frozen (i := 2) hg4
     have z3 := Blk.frozen (i := 3) hg4
     have z4 := Blk.frozen (i := 4) hg4
     have z5 := Blk.frozen (i := 5) hg4
     simp only [fd0] at c0 c1 c2 c3 c4
     have HG4 := Lib.hid hg4
     have HB4 := Lib.hid hb4
     have hs4 := hb4.size
     clear hf4 hg4 hb4
     go_wp2_with fail
     refine frame_end _ _ (4 + (k : Int)) code rfl rfl rfl _ F (.slice B m c') (ff_set6 HG4.out) ?_
     have ht := tu_set6' W4 w.heap.size F (.slice B m c')
     have hBB := HB3.out.trans (HB4.out.mono (by omega)) |>.trans (ht.below (B := w.heap.size) (by omega) (by simp))
     have hcut : cutS msgTab xs = match decS msgTab ((xs.drop 4).take k) with | .error q => .error q | .ok F => .ok (some (F, 4 + k)) := by
      unfold cutS
      rw [if_neg (by omega), if_neg (by rw [HK.out]; omega), if_neg (by rw [HKK.out]; omega), HKK.out]
      cases decS msgTab ((xs.drop 4).take k) <;> rfl
     rw [hcut]
     refine ⟨F, B, m, c', 4 + (k : Int), code, rfl, hBB, ?_⟩
     have hc1 := HC.out
     cases hd : decS msgTab ((xs.drop 4).take k) with
     | error q =>
      rw [hd] at hc1
      exact hc1
     | ok F' =>
      rw [hd] at hc1
      obtain ⟨h1, h2, h3⟩ := hc1
      refine ⟨h1, by simp, h2.symm, ?_⟩
      exact Kd.R_lower (Kd.R_mono (own_tu (Kd.R_below h3 HB4.out) ht (by simp; omega)) (fun _ _ => trivial)) hs2
set_option maxHeartbeats 4000000 in
set_option maxRecDepth 100000 in
theorem frame_rep (A : Option Addr) (c : Nat) (xs : List Int) (w : World) (hx : BytesAt w A xs.length xs) (hu : u8s xs) (hc : xs.length ≤ c) (hbig : xs.length ≤ 1000000000) :
  Calls Try.prog 80 #[.slice A xs.length c, .bool true] w (CutPost w (cutS repTab xs)) := by
 have HX := Lib.hid hx
 clear hx
 by_cases h4 : xs.length < 4
 ·
  have d1 : decide ((xs.length : Int) < 4) = true := by rw [decide_eq_true_eq]; omega
  have HR := Lib.hid (show cutS repTab xs = .ok none by unfold cutS; rw [if_pos (by omega)])
  go_enter Try.func80, Try.ntmps80
  go_wp2_with fail
  exact frame_end _ _ 0 0 rfl rfl rfl _ (fd0 0) (.slice none 0 0) (blkNew rfl) (cut_wait HR.out (by go_grown))
 ·
  have d1 : decide ((xs.length : Int) < 4) = false := by rw [decide_eq_false_iff_not]; omega
  have HTK := Lib.hid (take_read HX.out 4 (by omega))
  have HUT := Lib.hid (u8_take hu 4)
  have HK := Lib.hid (len1_eq hu 4)
  generalize hK : len1 xs 4 = k at HK
  have HKK := Lib.hid hK
  clear hK
  go_enter Try.func80, Try.ntmps80
  go_wp2_with fail
  refine (number_ok A 4 c (xs.take 4) _ (BytesAt.below (B := 0) HTK.out (ba _)) (by omega) HUT.out (by omega)).mono ?_
  rw [HK.out]
  rintro e w2 ⟨rfl, hd2⟩
  have hb2 : Below w.heap.size w w2 := (ba _).trans (hd2.below.mono (by simp))
  have hf2 : FfAt w2 w.heap.size (fd0 0) (.slice none 0 0) := Blk.below (blkNew (w := w) rfl) hd2.below
  have hs1 : w.heap.size + 1 ≤ w2.heap.size := by have := hd2.below.size; simp at this; omega
  have HB2 := Lib.hid hb2
  have HF2 := Lib.hid hf2
  have hs2 := hb2.size
  clear hd2 hb2
  obtain ⟨c0, c1, c2, c3, c4, c5⟩ := ffCells hf2
  have z0 := Blk.frozen (i := 0) hf2
  have z1 := Blk.frozen (i := 1) hf2
  have z2 := Blk.frozen (i := 2) hf2
  have z3 := Blk.frozen (i := 3) hf2
  have z4 := Blk.frozen (i := 4) hf2
  have z5 := Blk.frozen (i := 5) hf2
  simp only [fd0] at c0 c1 c2 c3 c4
  clear hf2
  by_cases q1 : (k : Int) < 1
  ·
   have d2 : decide ((k : Int) < 1) = true := by simpa using q1
   have HR := Lib.hid (show cutS repTab xs = .error 121 by unfold cutS; rw [if_neg (by omega), if_pos (by rw [HK.out]; omega)])
   go_wp2_with fail
   exact frame_end _ _ 0 121 rfl rfl rfl _ (fd0 0) (.slice none 0 0) (set_six HF2.out) (cut_err HR.out (HB2.out.trans ((tu_six w2 w.heap.size _ _ _ _ _ _).below (by omega) (by simp))))
  ·
   have d2 : decide ((k : Int) < 1) = false := by simpa using q1
   by_cases q2 : (262400 : Int) < (k : Int)
   ·
    have d3 : decide ((k : Int) > 262400) = true := by simpa using q2
    have HR := Lib.hid (show cutS repTab xs = .error 121 by unfold cutS; rw [if_neg (by omega), if_pos (by rw [HK.out]; omega)])
    go_wp2_with fail
    exact frame_end _ _ 0 121 rfl rfl rfl _ (fd0 0) (.slice none 0 0) (set_six HF2.out) (cut_err HR.out (HB2.out.trans ((tu_six w2 w.heap.size _ _ _ _ _ _).below (by omega) (by simp))))
   ·
    have d3 : decide ((k : Int) > 262400) = false := by simpa using q2
    by_cases q3 : xs.length < 4 + k
    ·
     have d4 : decide ((xs.length : Int) < 4 + (k : Int)) = true := by simp; omega
     have HR := Lib.hid (show cutS repTab xs = .ok none by unfold cutS; rw [if_neg (by omega), if_neg (by rw [HK.out]; omega), if_pos (by rw [HKK.out]; omega)])
     go_wp2_with fail
     exact frame_end _ _ 0 0 rfl rfl rfl _ (fd0 0) (.slice none 0 0) (set_six HF2.out) (cut_wait HR.out (HB2.out.trans ((tu_six w2 w.heap.size _ _ _ _ _ _).below (by omega) (by simp))))
    ·
     have d4 : decide ((xs.length : Int) < 4 + (k : Int)) = false := by simp; omega
     obtain ⟨i5, hi5, hz5⟩ := info5'
     obtain ⟨A', hrun, hread, hcap⟩ := print_mid_int (P := Try.prog) (k := .u8) 22 5 Try.underlying22 hi5 hz5 A c xs 4 (4 + (k : Int)) (by omega) (by omega) (by omega) hc
     have hcut : (xs.take ((4 + (k : Int)).toNat)).drop (4 : Int).toNat = (xs.drop 4).take k := by
      rw [show (4 + (k : Int)).toNat = 4 + k by omega, show (4 : Int).toNat = 4 from rfl, List.drop_take]
      congr 1
      omega
     rw [hcut] at hrun hread hcap
     have hl2 : ((xs.drop 4).take k).length = k := by simp; omega
     rw [hl2] at hrun hread hcap
     have HRD : Hid (BytesAt w2 A' ((xs.drop 4).take k).length ((xs.drop 4).take k)) := Lib.hid (by rw [hl2]; exact BytesAt.of (hread w2 (BytesAt.nums (BytesAt.below (B := 0) HX.out HB2.out))))
     have hbody := body_rep A' (c - 4) ((xs.drop 4).take k) w2 HRD.out (u8_take (u8_drop hu 4) k) (by omega) (by omega) (by omega)
     rw [hl2] at hbody
     have HBODY := Lib.hid hbody
     clear hread hcut hl2 hi5 hz5 hbody
     clear c0 c1 c2 c3 c4 c5 z0 z1 z2 z3 z4 z5
     go_wp2_with fail
     refine HBODY.out.mono ?_
     rintro e w3 ⟨F, dv3, code, rfl, hb3, ⟨B, m, c', rfl⟩, hcase⟩
     have HB3 := Lib.hid (HB2.out.trans (hb3.mono hs2))
     have HF3 := Lib.hid (Blk.below HF2.out hb3)
     have hs3 := hb3.size
     have HC := Lib.hid hcase
     clear hb3 hcase
     unfold Flds.cells
     go_upto_region 9 with (fail)
     generalize hW : w3.alloc (.cells #[.int .i64 F.kind, .int .i64 F.tn, .int .i64 F.n, .int .i64 F.m, .string F.name, .slice B m c'] 118) = W4
     have hf4 : FfAt W4 w3.heap.size F (.slice B m c') := by rw [← hW]; exact blkNew rfl
     have hg4 : FfAt W4 w.heap.size (fd0 0) (.slice none 0 0) := by rw [← hW]; exact Blk.below HF3.out (ba _)
     have hb4 : Below w3.heap.size w3 W4 := by rw [← hW]; exact ba _
     clear hW
     obtain ⟨e0, e1, e2, e3, e4, e5⟩ := ffCells hf4
     obtain ⟨c0, c1, c2, c3, c4, c5⟩ := ffCells hg4
     have z0 := Blk.frozen (i := 0) hg4
     have z1 := Blk.frozen (i := 1) hg4
     have z2 := Blk.frozen (i := 2) hg4
     have z3 := Blk.frozen (i := 3) hg4
     have z4 := Blk.frozen (i := 4) hg4
     have z5 := Blk.frozen (i := 5) hg4
     simp only [fd0] at c0 c1 c2 c3 c4
     have HG4 := Lib.hid hg4
     have HB4 := Lib.hid hb4
     have hs4 := hb4.size
     clear hf4 hg4 hb4
     go_wp2_with fail
     refine frame_end _ _ (4 + (k : Int)) code rfl rfl rfl _ F (.slice B m c') (ff_set6 HG4.out) ?_
     have ht := tu_set6' W4 w.heap.size F (.slice B m c')
     have hBB := HB3.out.trans (HB4.out.mono (by omega)) |>.trans (ht.below (B := w.heap.size) (by omega) (by simp))
     have hcut : cutS repTab xs = match decS repTab ((xs.drop 4).take k) with | .error q => .error q | .ok F => .ok (some (F, 4 + k)) := by
      unfold cutS
      rw [if_neg (by omega), if_neg (by rw [HK.out]; omega), if_neg (by rw [HKK.out]; omega), HKK.out]
      cases decS repTab ((xs.drop 4).take k) <;> rfl
     rw [hcut]
     refine ⟨F, B, m, c', 4 + (k : Int), code, rfl, hBB, ?_⟩
     have hc1 := HC.out
     cases hd : decS repTab ((xs.drop 4).take k) with
     | error q =>
      rw [hd] at hc1
      exact hc1
     | ok F' =>
      rw [hd] at hc1
      obtain ⟨h1, h2, h3⟩ := hc1
      refine ⟨h1, by simp, h2.symm, ?_⟩
      exact Kd.R_lower (Kd.R_mono (own_tu (Kd.R_below h3 HB4.out) ht (by simp; omega)) (fun _ _ => trivial)) hs2
end Go.Proofs.Ytpflenaoplblkaa.PaH
end
section
namespace Go.Proofs.Ytpflenaoplblkaa.PaI
open Go.RowKit YtpflenaoplblkaaW.PrintWords YtpflenaoplblkaaW.PrintLast ProA ProB ProC ProI ProD ProG ProJ ProK ProL ProM ProN ProO ProP ProQ ProR ProU ProZ ProBb PaA
open ProH (msgTab repTab ba)
open PaB PaC PaD PaE
set_option linter.unusedVariables false
set_option linter.unusedSimpArgs false
def Off (w : World) (ok : Nat → Prop) (v : Value) (xs : List Int) : Prop :=
  (v = .slice none 0 0 ∧ xs = []) ∨ ∃ (b off c : Nat) (cur : Array Value), v = .slice (some ⟨b, off, none⟩) xs.length c ∧ ok b ∧ xs.length ≤ c ∧ w.heap[b]? = some (.cells cur 5 (0, 0)) ∧ off + c ≤ cur.size ∧ (cur.toList.drop off).take xs.length = encs (Value.int .u8) xs
theorem off_nil (w : World) (ok : Nat → Prop) : Off w ok (.slice none 0 0) [] := .inl ⟨rfl, rfl⟩
theorem off_mono {w : World} {ok ok' : Nat → Prop} {v : Value} {xs : List Int} (h : Off w ok v xs) (hm : ∀ k, ok k → ok' k) : Off w ok' v xs := by
 rcases h with h | ⟨b, off, c, cur, h1, h2, h3⟩
 · exact .inl h
 · exact .inr ⟨b, off, c, cur, h1, hm b h2, h3⟩
theorem off_own {w : World} {ok : Nat → Prop} {v : Value} {xs : List Int} (h : Off w ok v xs) (k : Nat) (hk : v.ownBlock = some k) : ok k ∧ k < w.heap.size ∧ ∃ cells, w.heap[k]? = some (.cells cells 5 (0, 0)) := by
 rcases h with ⟨rfl, _⟩ | ⟨b, off, c, cur, rfl, h2, h3, h4, _⟩
 · cases hk
 ·
  injection hk with hk
  subst hk
  exact ⟨h2, (Array.getElem?_eq_some_iff.1 h4).1, cur, h4⟩
theorem off_move {w w' : World} {ok : Nat → Prop} {v : Value} {xs : List Int} (h : Off w ok v xs) (hm : ∀ k, v.ownBlock = some k → w'.heap[k]? = w.heap[k]?) : Off w' ok v xs := by
 rcases h with h | ⟨b, off, c, cur, rfl, h2, h3, h4, h5⟩
 · exact .inl h
 · exact .inr ⟨b, off, c, cur, rfl, h2, h3, (hm b rfl).trans h4, h5⟩
theorem cells_at {cur : Array Value} {off n : Nat} {xs : List Int} (h : (cur.toList.drop off).take n = encs (Value.int .u8) xs) (j : Nat) (hj : j < xs.length) : cur[off + j]? = some (.int .u8 (rd xs (j : Int))) := by
 have h2 : ((cur.toList.drop off).take n)[j]? = (encs (Value.int .u8) xs)[j]? := by rw [h]
 have hjn : j < n := by
  have := congrArg List.length h
  rw [List.length_take, encs_length] at this
  omega
 rw [List.getElem?_take_of_lt hjn, List.getElem?_drop, Array.getElem?_toList] at h2
 rw [h2]
 simp [encs, rd, List.getElem?_map, List.getElem?_eq_getElem hj, List.getD_eq_getElem?_getD]
theorem off_reads {w : World} {ok : Nat → Prop} {v : Value} {xs : List Int} (h : Off w ok v xs) (hx : xs.length ≤ 1000000000) : ∃ A c, v = .slice A xs.length c ∧ xs.length ≤ c ∧ BytesAt w A xs.length xs := by
 rcases h with ⟨rfl, rfl⟩ | ⟨b, off, c, cur, rfl, h2, h3, h4, h5, h6⟩
 · exact ⟨none, 0, rfl, by simp, c_nil (Kd.int .u8) w none⟩
 ·
  refine ⟨_, c, rfl, h3, BytesAt.of ⟨rfl, by omega, fun hn => ⟨_, rfl, fun j hj => ?_⟩⟩⟩
  have hc := cells_at h6 j hj
  rw [show ((⟨b, off, none⟩ : Addr).add j) = ⟨b, off + j, none⟩ by unfold Addr.add; split <;> simp_all]
  rw [show w.cell? ⟨b, off + j, none⟩ = cur[off + j]? by simp [World.cell?, h4], hc]
  simp [rd, List.getD_eq_getElem?_getD]
set_option maxRecDepth 100000 in
theorem off_drop {w : World} {ok : Nat → Prop} {A : Option Addr} {c : Nat} {xs : List Int} (h : Off w ok (.slice A xs.length c) xs) (k : Nat) (hk : k ≤ xs.length) (hx : xs.length ≤ 1000000000) :
  ∃ A', (∀ W : World, (Instr.slice 22 (.slice A xs.length c) (some (.int .i64 (k : Int))) none none).run Try.prog W = .ok (.slice A' (xs.drop k).length (c - k)) W) ∧ Off w ok (.slice A' (xs.drop k).length (c - k)) (xs.drop k) ∧ (∀ b, (Value.slice A' (xs.drop k).length (c - k)).ownBlock = some b → (Value.slice A xs.length c).ownBlock = some b) := by
 have hcap : xs.length ≤ c := by
  rcases h with ⟨h1, h2⟩ | ⟨b, off, c', cur, h1, h2, h3, _⟩
  · injection h1 with _ h3 h4; omega
  · injection h1 with _ _ h5; omega
 have hrun : ∀ W : World, (Instr.slice 22 (.slice A xs.length c) (some (.int .i64 (k : Int))) none none).run Try.prog W = .ok (.slice (if c = k then A else A.map (·.add k)) (xs.length - k) (c - k)) W := fun W => by
  obtain ⟨i5, hi5, hz5⟩ := info5'
  have hel : (Try.prog).elem 22 = 5 := by simp [Program.elem, Try.underlying22]
  have hu : (Try.prog).underlying 22 = some (.slice ((Try.prog).elem 22)) := by rw [hel]; exact Try.underlying22
  rw [run_slice_l W 22 A xs.length c hu .i64 (k : Int) (Int.natCast_nonneg _) (by omega), hel]
  have hsz : (sizeOf 5).run Try.prog W = .ok 1 W := by simp [sizeOf, typeInfo, hi5, hz5]
  simp only [Sem.run_bind, hsz, Result.andThen_ok, Sem.run_pure]
  congr 1
  unfold sliced
  simp
 rw [List.length_drop]
 refine ⟨_, hrun, ?_, ?_⟩
 ·
  rcases h with ⟨h1, h2⟩ | ⟨b, off, c', cur, h1, h2, h3, h4, h5, h6⟩
  ·
   injection h1 with e1 e2 e3
   subst h2
   have hk0 : k = 0 := by simpa using hk
   subst hk0
   subst e3
   subst e1
   left
   simp
  ·
   injection h1 with e1 e2 e3
   subst e1
   subst e3
   right
   by_cases hck : c = k
   ·
    subst hck
    rw [if_pos rfl]
    refine ⟨b, off, 0, cur, by simp [List.length_drop], h2, by rw [List.length_drop]; omega, h4, by omega, ?_⟩
    rw [List.drop_of_length_le (by omega)]
    simp [encs]
   ·
    rw [if_neg hck]
    refine ⟨b, off + k, c - k, cur, ?_, h2, by rw [List.length_drop]; omega, h4, by omega, ?_⟩
    ·
     rw [List.length_drop]
     have : ((⟨b, off, none⟩ : Addr).add k) = ⟨b, off + k, none⟩ := by unfold Addr.add; split <;> simp_all
     simp [this]
    ·
     have h7 : encs (Value.int .u8) (xs.drop k) = (encs (Value.int .u8) xs).drop k := by simp [encs, List.map_drop]
     rw [h7, ← h6, List.drop_take, List.drop_drop, List.length_drop]
 ·
  intro b hb
  rcases h with ⟨h1, h2⟩ | ⟨b', off, c', cur, h1, _⟩
  ·
   injection h1 with e1 e2 e3
   subst e1
   split at hb <;> simp [Value.ownBlock] at hb
  ·
   injection h1 with e1 e2 e3
   subst e1
   by_cases hck : c = k
   · rw [if_pos hck] at hb; exact hb
   ·
    rw [if_neg hck] at hb
    have : ((⟨b', off, none⟩ : Addr).add k) = ⟨b', off + k, none⟩ := by unfold Addr.add; split <;> simp_all
    simp only [Option.map_some, this, Value.ownBlock] at hb ⊢
    exact hb
theorem off_of_own {w : World} {base : Nat} {v : Value} {xs : List Int} (h : w.ownsRow base 5 1 v xs.length (encs (Value.int .u8) xs)) : Off w (fun k => base ≤ k) v xs := by
 obtain ⟨h0, h | ⟨g, cap, cur, h1, h2, h3, h4, h5, h6, h7⟩⟩ := h
 · exact .inl ⟨h.1, List.eq_nil_of_length_eq_zero h.2⟩
 ·
  refine .inr ⟨g, 0, cap, cur, h1, h2, h4, h3, by omega, ?_⟩
  rw [List.drop_zero]
  simpa using h7
theorem info5s : ∃ i, Try.prog.info? 5 = some i ∧ i.zero = some (.int .u8 0) ∧ i.size = 1 ∧ i.bytes = 1 := by
 obtain ⟨i, h1, h2⟩ := Option.map_eq_some_iff.1 info5
 simp only [Prod.mk.injEq] at h2
 exact ⟨i, h1, h2.1, h2.2.1, h2.2.2⟩
set_option maxRecDepth 100000 in
theorem off_app (ty : TypeId) {W : World} {ok : Nat → Prop} {v : Value} {xs ys : List Int} {A : Option Addr} {m c : Nat} (h : Off W ok v xs) (hr : BytesAt W A m ys) (hb : xs.length + m ≤ 1000000000) :
  ∃ v1 w1, (Builtin.append_ #[22, 22] ty #[v, .slice A m c]).run Try.prog W = .ok v1 w1 ∧ Off w1 (fun k => v.ownBlock = some k ∨ W.heap.size ≤ k) v1 (xs ++ ys) ∧ W.grownBy w1 v.ownBlock := by
 obtain ⟨i, hi, hz, hsz, hby⟩ := info5s
 obtain rfl : ys.length = m := BytesAt.len hr
 have hlen : (xs ++ ys).length = xs.length + ys.length := List.length_append
 have henc : encs (Value.int .u8) (xs ++ ys) = encs (Value.int .u8) xs ++ encs (Value.int .u8) ys := by simp [encs]
 have hone : ∀ u ∈ encs (Value.int .u8) ys, u.oneCell' = true := by
  intro u hu
  simp only [encs, List.mem_map] at hu
  obtain ⟨y, _, rfl⟩ := hu
  rfl
 have hnl : (encs (Value.int .u8) ys).length = ys.length := encs_length _
 have hnews : ∀ a, A = some a → ∀ j u, (encs (Value.int .u8) ys)[j]? = some u → W.cell? (a.add j) = some u := by
  intro a ha j u hj
  have hjl : j < ys.length := by
   have := (List.getElem?_eq_some_iff.1 hj).1
   rwa [hnl] at this
  obtain ⟨ad, e, hc⟩ := BytesAt.at_ hr j hjl
  rw [ha] at e
  injection e with e
  subst e
  rw [hc, ← hj]
  simp [encs, rd, List.getElem?_map, List.getElem?_eq_getElem hjl, List.getD_eq_getElem?_getD]
 by_cases hm : ys.length = 0
 ·
  have hy : ys = [] := List.eq_nil_of_length_eq_zero hm
  subst hy
  have hcells : ∀ W', (Builtin.firstCells i.size 0 (.slice A 0 c)).run Try.prog W' = .ok #[] W' := fun W' => by cases A <;> simp [Builtin.firstCells, loadCells, loadCellsFrom]
  have hsrc : Src Try.prog i.size 22 (.slice A 0 c) 0 [] W := { kind := .inl ⟨5, Try.underlying22⟩, len := fun w' => by simp [Builtin.lenOf], cells := hcells W, cellsD := hcells W.drew, newsLen := by simp, one := by simp }
  rw [List.append_nil]
  rcases h with ⟨rfl, rfl⟩ | ⟨b, off, c2, cur, rfl, h2, h3, h4⟩
  · exact ⟨_, W, run_append_nothing W 22 22 ty 5 i Try.underlying22 hi none 0 0 (Nat.le_refl _) _ hsrc, .inl ⟨rfl, rfl⟩, ⟨rfl, rfl, rfl, Nat.le_refl _, fun _ _ _ => rfl⟩⟩
  · exact ⟨_, W, run_append_nothing W 22 22 ty 5 i Try.underlying22 hi _ _ _ h3 _ hsrc, .inr ⟨b, off, c2, cur, rfl, .inl rfl, h3, h4⟩, ⟨rfl, rfl, rfl, Nat.le_refl _, fun _ _ _ => rfl⟩⟩
 ·
  obtain ⟨a, rfl, _⟩ := BytesAt.at_ hr 0 (by omega)
  have hnw := hnews a rfl
  rcases h with ⟨rfl, rfl⟩ | ⟨b, off, c2, cur, rfl, h2, h3, h4, h5, h6⟩
  ·
   obtain ⟨v', w', hrun, hown, hg, _⟩ := run_append_own (P := Try.prog) W W.heap.size 22 ty 5 i (.int .u8 0) 1 1 Try.underlying22 hi hz hsz hby rfl (by decide) (.slice none 0 0) 0 [] (own_nil W _ _ _) a ys.length c (encs (Value.int .u8) ys) (by rw [hnl]; omega) hnw hone (by unfold maxLen; omega) (by omega) (Nat.le_refl _)
   rw [Nat.zero_add, List.nil_append] at hown
   exact ⟨v', w', hrun, off_mono (off_of_own hown) (fun k hk => .inr hk), hg⟩
  ·
   by_cases hroom : xs.length + ys.length ≤ c2
   ·
    have hcs : ∀ j, j < (encs (Value.int .u8) ys).length → (W.cell? ⟨b, off + xs.length * i.size + j, none⟩).isSome = true := by
     intro j hj
     rw [hnl] at hj
     rw [hsz, Nat.mul_one]
     simp only [World.cell?, h4]
     rw [Array.getElem?_eq_getElem (by omega)]
     rfl
    have hrun := run_append_room_cells (P := Try.prog) W 22 ty 5 i Try.underlying22 hi b off xs.length c2 a ys.length c (encs (Value.int .u8) ys) (by rw [hnl, hsz]; omega) hnw hone hroom hcs (fun j hj => frozen_of_row _ _ _ _ _ h4)
    rw [hsz, Nat.mul_one] at hrun
    obtain ⟨cur', g1, g2, g3⟩ := setCells_row (encs (Value.int .u8) ys) (off + xs.length) W cur h4 (by rw [hnl]; omega)
    obtain ⟨k1, k2, k3, k4⟩ := setCells_same b (encs (Value.int .u8) ys) (off + xs.length) W
    refine ⟨_, _, hrun, .inr ⟨b, off, c2, cur', by rw [hlen], .inl rfl, by rw [hlen]; exact hroom, g1, by rw [g2]; exact h5, ?_⟩, ⟨k1, k2, k3, by rw [k4]; exact Nat.le_refl _, fun k _ hne => setCells_far _ _ k (fun e => hne (by subst e; rfl))⟩⟩
    have hcl : cur.toList.length = cur.size := Array.length_toList
    rw [g3, hlen, henc, List.append_assoc, List.drop_append, List.length_take, hcl]
    rw [show off - min (off + xs.length) cur.size = 0 by omega, List.drop_zero, List.drop_take, show off + xs.length - off = xs.length by omega, h6, ← List.append_assoc]
    rw [List.take_left' (by rw [List.length_append, encs_length, encs_length])]
   ·
    have holds : ∀ j u, (encs (Value.int .u8) xs)[j]? = some u → W.cell? ((⟨b, off, none⟩ : Addr).add j) = some u := by
     intro j u hj
     have hjl : j < xs.length := by
      have := (List.getElem?_eq_some_iff.1 hj).1
      rwa [encs_length] at this
     rw [show ((⟨b, off, none⟩ : Addr).add j) = ⟨b, off + j, none⟩ by unfold Addr.add; split <;> simp_all]
     rw [show W.cell? ⟨b, off + j, none⟩ = cur[off + j]? by simp [World.cell?, h4], cells_at h6 j hjl, ← hj]
     simp [encs, rd, List.getElem?_map, List.getElem?_eq_getElem hjl, List.getD_eq_getElem?_getD]
    obtain ⟨v', w', hrun, hown, hg⟩ := run_append_arg_grows (P := Try.prog) W 22 ty 5 i (.int .u8 0) 1 1 Try.underlying22 hi hz hsz hby rfl (by decide) ⟨b, off, none⟩ xs.length c2 (encs (Value.int .u8) xs) (by rw [encs_length]; omega) holds a ys.length c (encs (Value.int .u8) ys) (by rw [hnl]; omega) hnw (by omega) (by unfold maxLen; omega) (by omega)
    rw [← hlen, ← henc] at hown
    exact ⟨v', w', hrun, off_mono (off_of_own hown) (fun k hk => .inr hk), ⟨hg.os, hg.tape, hg.output, hg.size, fun k hk _ => hg.block k hk (by simp)⟩⟩
end Go.Proofs.Ytpflenaoplblkaa.PaI
end
section
namespace Go.Proofs.Ytpflenaoplblkaa.PaJ
open Go.RowKit YtpflenaoplblkaaW.PrintWords YtpflenaoplblkaaW.PrintLast ProA ProB ProC ProI ProD ProG ProJ ProK ProL ProM ProN ProO ProP ProQ ProR ProU ProZ ProBb PaA
open ProH (msgTab repTab ba)
open ProS PaB PaC PaD PaE PaF PaG PaH PaI
set_option linter.unusedVariables false
set_option linter.unusedSimpArgs false
set_option maxHeartbeats 4000000 in
set_option maxRecDepth 100000 in
theorem refDecode_ok (w : World) (c : Nat) (ys : List Int) (A : Option Addr)
  (hx : BytesAt w A ys.length ys) (hc : ys.length ≤ c) (hu : u8s ys) (hbig : ys.length ≤ 1000000000) :
  Calls Try.prog 57 #[.slice A ys.length c] w (RepPost w (repS repTab ys)) := by
 have HX2 := Lib.hid hx
 have HS := Lib.hid (show RepSt w w (.slice none 0 0) [] 0 ys from ⟨Below.refl _ _, Kd.R_nil _ _ _ _ _, by omega, by simp, by simp⟩)
 have HB2 := Lib.hid (Below.refl w.heap.size w)
 clear hx
 go_enter Try.func57, Try.ntmps57
 go_wp2_with fail
 go_loopw [5, 6] (fun l t wr => ∃ (ms : List Flds) (at_ : Nat), at_ ≤ ys.length ∧ t = .int .i64 (at_ : Int) ∧ Hid (RepSt w wr l ms at_ ys)) (fun _ t _ => ys.length - (intOf t).toNat)
 case atStart => exact ⟨[], 0, by omega, rfl, HS⟩
 case round =>
  clear HS
  obtain ⟨ms, at_, hle, rfl, HS⟩ := hrel
  obtain ⟨i5, hi5, hz5⟩ := info5'
  obtain ⟨A2, hrun, hread, hcap⟩ := print_drop_of (P := Try.prog) (Value.int .u8) (0 : Int) 22 5 .i64 Try.underlying22 hi5 hz5 A c ys (at_ : Int) (by omega) (by omega) hc
  rw [Int.toNat_natCast] at hrun hread hcap
  have HRD := Lib.hid (BytesAt.of (hread w (BytesAt.nums HX2.out)))
  have HCP := Lib.hid hcap
  clear hread hcap hi5 hz5
  have hdl : (ys.drop at_).length = ys.length - at_ := List.length_drop
  go_wp2_with fail
  rw [← hdl]
  refine (frame_rep A2 (c - at_) (ys.drop at_) wr (BytesAt.below (B := 0) HRD.out HS.out.below) (u8_drop hu at_) HCP.out (by omega)).mono ?_
  rintro e w3 ⟨F, B', m, cc, size, code, rfl, hb3, hcase⟩
  unfold Flds.cells
  have hb4 := HS.out.below.trans (hb3.mono HS.out.below.size)
  have HB3 := Lib.hid hb3
  have HB4 := Lib.hid hb4
  clear hb3 hb4 hrun hdl
  cases hcut : cutS repTab (ys.drop at_) with
  | error q =>
   rw [hcut] at hcase
   obtain rfl : code = q := hcase
   have dq : (code != 0) = true := by
    rcases cutS_err hcut with h | h | h <;> rw [h] <;> rfl
   have HC := Lib.hid hcut
   clear hcut
   go_wp2_with fail
   refine bodyPost_ret (v := .tuple #[u5, .int .i64 (at_ : Int), .int .i64 code]) (by simp [results, Try.results57, go_sem]) rfl ?_
   exact rep_end HS.out HB2.out (HB3.out.alloc HB3.out.size _) (repS_err HC.out)
  | ok r =>
   cases r with
   | none =>
    rw [hcut] at hcase
    obtain ⟨rfl, rfl⟩ := hcase
    have HC := Lib.hid hcut
    clear hcut
    go_wp2_with fail
    refine bodyPost_ret (v := .tuple #[u5, .int .i64 (at_ : Int), .int .i64 0]) (by simp [results, Try.results57, go_sem]) rfl ?_
    exact rep_end HS.out HB2.out (HB3.out.alloc HB3.out.size _) (repS_wait HC.out)
   | some x =>
    obtain ⟨F', n'⟩ := x
    rw [hcut] at hcase
    obtain ⟨rfl, rfl, hF, ho3⟩ := hcase
    subst hF
    obtain ⟨hn1, hn2, hn3⟩ := cutS_some hcut
    rw [List.length_drop] at hn2
    have dn : ((n' : Int) == 0) = false := by simp; omega
    have hst := HS.out
    have hct := hst.count
    have HC := Lib.hid hcut
    have HO3 := Lib.hid ho3
    clear hcut ho3 hst
    go_upto_region 6 with (fail)
    generalize hW : w3.alloc (.cells #[.int .i64 F.kind, .int .i64 F.tn, .int .i64 F.n, .int .i64 F.m, .string F.name, .slice B' m cc] 118) = w4
    have hf4 : FfAt w4 w3.heap.size F (.slice B' m cc) := by rw [← hW]; exact blkNew rfl
    have HB5 : Hid (Below w3.heap.size w3 w4) := Lib.hid (by rw [← hW]; exact ba _)
    clear hW
    obtain ⟨e0, e1, e2, e3, e4, e5⟩ := ffCells hf4
    clear hf4
    go_wp2_with (first
     | ((with_reducible refine gate_builtin (b := .append) (xs := #[.tmp 27, .tmp 37]) rfl ?_); at_builtin; refine Kd.R_append k44 (w0 := w) w.heap.size rfl (.tmp 27) (.tmp 37) 41 44 (.agg #[.int .i64 0, .int .i64 0, .int .i64 0, .slice none 0 0]) 48 rfl Try.underlying41 info44 rfl (by decide) (by omega) u5 (ms.map repOf) (repOf F) [.int .i64 F.kind, .int .i64 F.n, .int .i64 F.m, .slice B' m cc] (fun _ => True) (fun k => wr.heap.size ≤ k) rfl rfl ?hp ?hokp (fun _ _ => trivial) ?hrow ?hbel ?hbase ?hl ?_; (case hp => exact k44_mkM _ _ _ (repOf F) (Kd.R_lower (Kd.R_mono (Kd.R_bound (Kd.R_below HO3.out HB5.out)) (fun k hk => hk.2.1)) HS.out.below.size)); (case hokp => exact fun k hk => ⟨trivial, fun e => by obtain ⟨inner, ho⟩ := Kd.R_own HS.out.row; have := own_lt ho k e.symm; omega⟩); (case hrow => exact Kd.R_below (Kd.R_below HS.out.row HB3.out) HB5.out); (case hbel => exact HS.out.below.trans ((HB3.out.trans (HB5.out.mono HB3.out.size)).mono HS.out.below.size)); (case hbase => have h1 := HS.out.below.size; have h2 := HB3.out.size; have h3 := HB5.out.size; omega); (case hl => rw [List.length_map]; omega); intro v1 w5 hr5 hb5 hg5 hat5; have HR5 := Lib.hid hr5; have HB6 := Lib.hid hb5; clear hr5 hb5 hg5 hat5))
    refine ⟨⟨ms ++ [F], at_ + n', by omega, by go_num, Lib.hid ?_⟩, by simp [intOf]; omega⟩
    have hst := HS.out
    refine ⟨HB6.out, by rw [List.map_append]; exact HR5.out, by omega, by rw [show (ms ++ [F]).length = ms.length + 1 by simp]; omega, ?_⟩
    rw [hst.eq, repS_step HC.out, List.drop_drop]
    simp [Nat.add_assoc]
set_option maxRecDepth 100000 in
theorem app_off {ops : Array Oper} {rest : List Oper} {o : Oper} {a : Act} {Q : Exit → Act → World → Prop} {W : World} (hgd : o.guard = none) (s x : Operand)
  (ho : o.op = .call { callee := .builtin .append, args := #[s, x], argTypes := #[22, 22] }) (v : Value) (xs ys : List Int) (A : Option Addr) (m c : Nat) (ok : Nat → Prop) (hs : a.eval s = v) (hx : a.eval x = .slice A m c)
  (h : Off W ok v xs) (hr : BytesAt W A m ys) (hb : xs.length + m ≤ 1000000000)
  (K : ∀ v1 w1, Off w1 (fun k => v.ownBlock = some k ∨ W.heap.size ≤ k) v1 (xs ++ ys) → W.grownBy w1 v.ownBlock → wpList Try.prog ops Q rest (a.put o.dst v1) w1) :
  wpList Try.prog ops Q (o :: rest) a W := by
 refine wpList_plain hgd fun K' hK' => ?_
 obtain ⟨v1, w1, hrun, h1, h2⟩ := off_app o.type h hr hb
 unfold Oper.wp
 simp only [execOp, ho, resolve, invoke, builtin, Sem.run_bind, Sem.run_pure, Result.andThen_ok, List.map_toArray, List.map_cons, List.map_nil, hs, hx]
 erw [hrun]
 exact hK' _ _ (K v1 w1 h1 h2)
def RFeedPost (w : World) (g : Nat) (wv : Value) (r : List Flds × Int × List Int) (e : Ending) (w' : World) : Prop :=
  ∃ lv wv', e = .returned (.tuple #[lv, .int .i64 r.2.1]) ∧ Kd.R k35 35 w' w.heap.size (fun _ => True) lv (r.1.map msgOf) ∧ Blk w' g #[wv', .bool (r.2.1 != 0)] 106 ∧ Off w' (fun k => wv.ownBlock = some k ∨ w.heap.size ≤ k) wv' r.2.2 ∧ Tu (g :: wv.ownBlock.toList) w w'
def lenAt (w : World) (g : Nat) : Nat := match w.cell? ⟨g, 0, none⟩ with | some v => lenV v | none => 0
theorem lenAt_eq {w : World} {g : Nat} {A : Option Addr} {n c : Nat} {x : Value} (h : Blk w g #[.slice A n c, x] 106) : lenAt w g = n := by
 have h0 : w.cell? ⟨g, 0, none⟩ = some (.slice A n c) := Blk.cell (i := 0) h rfl
 unfold lenAt
 rw [h0]
 rfl
set_option maxRecDepth 100000 in
theorem rfeed_dead (w : World) (g : Nat) (wv : Value) (A : Option Addr) (n c : Nat) (hd : Blk w g #[wv, .bool true] 106) :
  Calls Try.prog 59 #[pt g, .slice A n c] w fun e w' => e = .returned (.tuple #[.slice none 0 0, .int .i64 124]) ∧ w = w' := by
 have h1 : w.cell? ⟨g, 1, none⟩ = some (.bool true) := Blk.cell (i := 1) hd rfl
 go_enter Try.func59, Try.ntmps59
 go_wp2_with fail
 go_ret2
 exact ⟨rfl, rfl⟩
structure RFeedSt (w wr : World) (g : Nat) (wv lv bv : Value) (ms : List Flds) (bs : List Int) (all : List Int) : Prop where
 tu : Tu (g :: wv.ownBlock.toList) w wr
 row : Kd.R k35 35 wr w.heap.size (fun _ => True) lv (ms.map msgOf)
 dec : Blk wr g #[bv, .bool false] 106
 off : Off wr (fun k => wv.ownBlock = some k ∨ w.heap.size ≤ k) bv bs
 u8 : u8s bs
 len : bs.length ≤ all.length
 count : ms.length + bs.length ≤ all.length
 eq : feedS msgTab all = (ms ++ (feedS msgTab bs).1, (feedS msgTab bs).2)
set_option maxRecDepth 100000 in
theorem off_ne {w : World} {ok : Nat → Prop} {v : Value} {xs : List Int} {g : Nat} {cs : Array Value} {t : TypeId} (h : Off w ok v xs) (hg : Blk w g cs t) (ht : 5 ≠ t) : ∀ k, v.ownBlock = some k → k ≠ g := by
 intro k hk e
 subst e
 obtain ⟨_, _, cells, hc⟩ := off_own h k hk
 rw [hg] at hc
 injection hc with hc
 injection hc with _ h2
 exact ht h2.symm
theorem rfeed_end {w wr W' : World} {g : Nat} {wv wv' lv bv : Value} {ms : List Flds} {bs all : List Int} {code : Int} {rest : List Int} {r : List Flds × Int × List Int} (hr : r = (ms, code, rest)) (h : RFeedSt w wr g wv lv bv ms bs all) (hg : g < w.heap.size) (hT : Tu [g] wr W')
  (b : Bool) (hb : (code != 0) = b) (hd : Blk W' g #[wv', .bool b] 106) (ho : Off W' (fun k => wv.ownBlock = some k ∨ w.heap.size ≤ k) wv' rest) :
  RFeedPost w g wv r (.returned (.tuple #[lv, .int .i64 code])) W' := by
 subst hr
 subst hb
 refine ⟨lv, wv', rfl, ?_, hd, ho, h.tu.trans (hT.mono (fun k hk => .inl (by simp at hk; simp [hk])))⟩
 exact Kd.R_mono (rowKeep h.row hT (fun k hk => by simp at hk; omega)) (fun _ _ => trivial)
set_option maxHeartbeats 4000000 in
set_option maxRecDepth 100000 in
theorem rfeed_ok (w : World) (g : Nat) (wv : Value) (ws ys : List Int) (A : Option Addr) (c : Nat) (hd : Blk w g #[wv, .bool false] 106) (hw : Off w (fun _ => True) wv ws) (hx : BytesAt w A ys.length ys) (hc : ys.length ≤ c) (hu : u8s ys) (huw : u8s ws) (hbig : ws.length + ys.length ≤ 100000000) :
  Calls Try.prog 59 #[pt g, .slice A ys.length c] w (RFeedPost w g wv (feedS msgTab (ws ++ ys))) := by
 have h0 : w.cell? ⟨g, 0, none⟩ = some wv := Blk.cell (i := 0) hd rfl
 have h1 : w.cell? ⟨g, 1, none⟩ = some (.bool false) := Blk.cell (i := 1) hd rfl
 have hz0 := Blk.frozen (i := 0) hd
 have hglt := Blk.lt hd
 have hne := off_ne hw hd (by decide)
 obtain ⟨A0, c0, hwv, hc0, _⟩ := off_reads hw (by omega)
 subst hwv
 have HD := Lib.hid hd
 have HW := Lib.hid hw
 have HX := Lib.hid hx
 have HNE := Lib.hid hne
 obtain ⟨N, hN⟩ : ∃ N : Nat, (ws ++ ys).length = N := ⟨_, rfl⟩
 have hN2 : N ≤ 100000000 := by rw [← hN, List.length_append]; omega
 have HN := Lib.hid hN
 clear hd hw hx hne hN
 go_enter Try.func59, Try.ntmps59
 go_wp2_with (at_builtin; refine app_off rfl (.tmp 18) (.tmp 19) rfl (.slice A0 ws.length c0) ws ys A ys.length c (fun _ => True) rfl rfl HW.out HX.out (by omega) ?_; intro v1 w1 ho1 hg1; obtain ⟨A1, c1, hv1, hc1, _⟩ := off_reads ho1 (by rw [HN.out]; omega); rw [HN.out] at hv1 hc1; subst hv1; have HO1 := Lib.hid ho1; have HG1 := Lib.hid hg1; have hd1 : Blk w1 g #[.slice A0 ws.length c0, .bool false] 106 := (hg1.block g hglt (fun e => HNE.out g e.symm rfl)).trans HD.out; have HD1 := Lib.hid hd1; have k0 := Blk.cell (i := 0) hd1 rfl; have z0 := Blk.frozen (i := 0) hd1; clear ho1 hg1 hd1)
 generalize hW : w1.setCell ⟨g, 0, none⟩ (.slice A1 N c1) = w2
 have ht1 : Tu (g :: (Value.slice A0 ws.length c0).ownBlock.toList) w w1 := (Tu.refl _ _).grown HG1.out (fun k hk => .inl (by simp [hk]))
 have hst : RFeedSt w w2 g (.slice A0 ws.length c0) (.slice none 0 0) (.slice A1 N c1) [] (ws ++ ys) (ws ++ ys) := by
  rw [← hW]
  refine ⟨ht1.setCell (.inl (by simp)) _, Kd.R_nil _ _ _ _ _, Blk.set (i := 0) HD1.out _, off_move HO1.out (fun k hk => Below.heap_setCell w1 _ _ k (off_ne HO1.out HD1.out (by decide) k hk)), fun x hx => ?_, Nat.le_refl _, by simp, by simp⟩
  rcases List.mem_append.1 hx with h | h
  · exact huw x h
  · exact hu x h
 have HST := Lib.hid hst
 have hglt1 : g < w.heap.size := hglt
 clear hW ht1 hst k0 z0 h0 h1 hz0
 generalize hall : ws ++ ys = all at HO1 HST HN
 have HALL := Lib.hid hall
 have hN3 := HN.out
 clear hall HN
 subst hN3
 have hal : all.length ≤ 100000000 := hN2
 go_wp2_with fail
 go_loopw [6] (fun l wr => ∃ (ms : List Flds) (A' : Option Addr) (c' : Nat) (bs : List Int), Hid (RFeedSt w wr g (.slice A0 ws.length c0) l (.slice A' bs.length c') ms bs all)) (fun _ wr => lenAt wr g)
 case atStart => exact ⟨[], A1, c1, all, HST⟩
 case round =>
  clear HST
  obtain ⟨ms, A', c', bs, HS⟩ := hrel
  have hbl := HS.out.len
  obtain ⟨A9, c9, hv9, hc9, hr9⟩ := off_reads HS.out.off (by omega)
  injection hv9 with e1 e2 e3
  subst e1
  subst e3
  clear e2
  have hdk := HS.out.dec
  have k0 := Blk.cell (i := 0) hdk rfl
  have HRD := Lib.hid hr9
  clear hr9 hdk
  have hsr := HS.out.tu.size
  go_wp2_with fail
  refine (frame_msg A' c' bs wr HRD.out HS.out.u8 hc9 (by omega)).mono ?_
  rintro e w3 ⟨F, B', m, cc, size, code, rfl, hb3, hcase⟩
  unfold Flds.cells
  have HB3 := Lib.hid hb3
  have hs3 := hb3.size
  clear hb3 k0
  cases hcut : cutS msgTab bs with
  | error q =>
   rw [hcut] at hcase
   obtain rfl : code = q := hcase
   have dq : (code != 0) = true := by
    rcases cutS_err hcut with h | h | h <;> rw [h] <;> rfl
   have HC := Lib.hid hcut
   clear hcut
   go_upto_region 7 with (fail)
   generalize hW : w3.alloc (.cells #[.int .i64 F.kind, .int .i64 F.tn, .int .i64 F.n, .int .i64 F.m, .string F.name, .slice B' m cc] 118) = w4
   have hb4 : Below wr.heap.size wr w4 := by rw [← hW]; exact HB3.out.trans ((ba _).mono hs3)
   have hd4 := Blk.below HS.out.dec hb4
   have e0 := Blk.cell (i := 0) hd4 rfl
   have e1 := Blk.cell (i := 1) hd4 rfl
   have ez0 := Blk.frozen (i := 0) hd4
   have ez1 := Blk.frozen (i := 1) hd4
   have HB4 := Lib.hid hb4
   have HD4 := Lib.hid hd4
   clear hW hb4 hd4
   go_wp2_with fail
   go_ret2
   refine rfeed_end (rest := []) ?_ HS.out hglt1 (((Tu.of_below HB4.out).setCell (.inl (by simp)) _).setCell (.inl (by simp)) _) true dq (Blk.set (i := 0) (Blk.set (i := 1) HD4.out _) _) (off_nil _ _)
   rw [HS.out.eq, feedS_err HC.out, List.append_nil]
  | ok r =>
   cases r with
   | none =>
    rw [hcut] at hcase
    obtain ⟨rfl, rfl⟩ := hcase
    have HC := Lib.hid hcut
    clear hcut
    go_wp2_with fail
    go_ret2
    refine rfeed_end (rest := bs) ?_ HS.out hglt1 ((Tu.of_below HB3.out).alloc _) false rfl (blkOld (Blk.below HS.out.dec HB3.out)) (off_move HS.out.off (fun k hk => ?_))
    · rw [HS.out.eq, feedS_wait HC.out, List.append_nil]
    ·
     have hlt := (off_own HS.out.off k hk).2.1
     exact (Below.heap_alloc w3 _ k (Nat.lt_of_lt_of_le hlt hs3)).trans (HB3.out.block k hlt)
   | some x =>
    obtain ⟨F', n'⟩ := x
    rw [hcut] at hcase
    obtain ⟨rfl, rfl, hF, ho3⟩ := hcase
    subst hF
    obtain ⟨hn1, hn2, hn3⟩ := cutS_some hcut
    have dn : ((n' : Int) == 0) = false := by simp; omega
    obtain ⟨A2, hrun, hoff2, hown2⟩ := off_drop HS.out.off n' (by omega) (by omega)
    have HC := Lib.hid hcut
    have HO3 := Lib.hid ho3
    have HF2 := Lib.hid hoff2
    have HW2 := Lib.hid hown2
    have hct := HS.out.count
    clear hcut ho3 hoff2 hown2
    go_upto_region 12 with (fail)
    generalize hW : w3.alloc (.cells #[.int .i64 F.kind, .int .i64 F.tn, .int .i64 F.n, .int .i64 F.m, .string F.name, .slice B' m cc] 118) = w4
    have hf4 : FfAt w4 w3.heap.size F (.slice B' m cc) := by rw [← hW]; exact blkNew rfl
    have HB5 : Hid (Below w3.heap.size w3 w4) := Lib.hid (by rw [← hW]; exact ba _)
    clear hW
    obtain ⟨e0, e1, e2, e3, e4, e5⟩ := ffCells hf4
    have HBW : Hid (Below wr.heap.size wr w4) := Lib.hid (HB3.out.trans (HB5.out.mono hs3))
    clear hf4
    go_upto_region 13 with (first
     | ((with_reducible refine gate_builtin (b := .append) (xs := #[.tmp 45, .tmp 57]) rfl ?_); at_builtin; refine Kd.R_append k35 (w0 := wr) w.heap.size rfl (.tmp 45) (.tmp 57) 27 35 (.agg #[.int .i64 0, .int .i64 0, .string ⟨#[]⟩, .int .i64 0, .slice none 0 0]) 64 rfl Try.underlying27 info35 rfl (by decide) (by omega) u6 (ms.map msgOf) (msgOf F) [.int .i64 F.kind, .int .i64 F.tn, .string F.name, .int .i64 F.n, .slice B' m cc] (fun _ => True) (fun k => wr.heap.size ≤ k) rfl rfl ?hp ?hokp (fun _ _ => trivial) ?hrow ?hbel ?hbase ?hl ?_; (case hp => exact k35_mkM _ _ _ (msgOf F) (Kd.R_lower (Kd.R_mono (Kd.R_bound (Kd.R_below HO3.out HB5.out)) (fun k hk => hk.2.1)) hsr)); (case hokp => exact fun k hk => ⟨trivial, fun e => by obtain ⟨inner, ho⟩ := Kd.R_own HS.out.row; have := own_lt ho k e.symm; omega⟩); (case hrow => exact Kd.R_below (Kd.R_below HS.out.row HB3.out) HB5.out); (case hbel => exact HBW.out.mono hsr); (case hbase => exact Nat.le_trans hsr HBW.out.size); (case hl => rw [List.length_map]; omega); intro v1 w5 hr5 hb5 hg5 hat5; have HR5 := Lib.hid hr5; have HB6 := Lib.hid hb5; have HG5 := Lib.hid hg5; clear hr5 hb5 hg5 hat5))
    obtain ⟨inner, ho5⟩ := Kd.R_own (Kd.R_below (Kd.R_below HS.out.row HB3.out) HB5.out)
    have hd4 : Blk w4 g #[.slice A' bs.length c', .bool false] 106 := Blk.below HS.out.dec HBW.out
    have hne5 : some g ≠ u6.ownBlock := own_ne ho5 hd4 (by decide)
    have hd5 : Blk w5 g #[.slice A' bs.length c', .bool false] 106 := (HG5.out.block g (Blk.lt hd4) hne5).trans hd4
    have ht5 : Tu (g :: (Value.slice A0 ws.length c0).ownBlock.toList) w w5 := by
     refine (HS.out.tu.trans (Tu.of_below HBW.out)).grown HG5.out (fun k hk => .inr ?_)
     exact own_base ho5 k hk
    have hoff5 : Off w5 (fun k => (Value.slice A0 ws.length c0).ownBlock = some k ∨ w.heap.size ≤ k) (.slice A2 (bs.drop n').length (c' - n')) (bs.drop n') := by
     refine off_move HF2.out (fun k hk => ?_)
     have hlt := (off_own HF2.out k hk).2.1
     have hne : some k ≠ u6.ownBlock := by
      intro e
      obtain ⟨cells, hc5⟩ := own_typed ho5 k e.symm
      obtain ⟨_, _, cells2, hc6⟩ := off_own HF2.out k hk
      rw [HBW.out.block k hlt, hc6] at hc5
      injection hc5 with hc5
      injection hc5 with _ h2
      exact absurd h2 (by decide)
     exact (HG5.out.block k (Nat.lt_of_lt_of_le hlt HBW.out.size) hne).trans (HBW.out.block k hlt)
    have k0 := Blk.cell (i := 0) hd5 rfl
    have z0 := Blk.frozen (i := 0) hd5
    have HD5 := Lib.hid hd5
    have HT5 := Lib.hid ht5
    have HOF5 := Lib.hid hoff5
    clear ho5 hd4 hne5 hd5 ht5 hoff5 e0 e1 e2 e3 e4 e5
    go_wp2_with fail
    have hldr : (bs.drop n').length = bs.length - n' := List.length_drop
    rw [← hldr]
    have hset : Blk (w5.setCell ⟨g, 0, none⟩ (.slice A2 (bs.drop n').length (c' - n'))) g #[.slice A2 (bs.drop n').length (c' - n'), .bool false] 106 := Blk.set (i := 0) HD5.out _
    refine ⟨⟨ms ++ [F], A2, c' - n', bs.drop n', Lib.hid ⟨HT5.out.setCell (.inl (by simp)) _, ?_, hset, off_move HOF5.out (fun k hk => Below.heap_setCell w5 _ _ k (off_ne HOF5.out HD5.out (by decide) k hk)), u8_drop HS.out.u8 n', by rw [List.length_drop]; omega, by rw [List.length_append, List.length_singleton, List.length_drop]; omega, ?_⟩⟩, ?_⟩
    ·
     rw [List.map_append]
     exact Kd.R_set HR5.out HD5.out (fun q hq => by
      simp [k35, Kd.iso, Kd.pair, Kd.slice, Kd.int, Kd.string, Kd.scalar] at hq
      rcases hq with rfl | rfl <;> decide) 0 _
    ·
     rw [HS.out.eq, feedS_step HC.out]
     simp
    ·
     rw [lenAt_eq hset, lenAt_eq HS.out.dec, List.length_drop]
     omega
end Go.Proofs.Ytpflenaoplblkaa.PaJ
end
