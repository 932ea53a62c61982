import Derived.ProofKit
import Derived.OpenShut
import Derived.ShutString
import Derived.ChangeOld
import Derived.Below
import Derived.JoinedCond
import Derived.Deep.Cut
import Derived.Deep.Draws
import Derived.Deep.AppendLies
import Derived.Maps.AppendAt
import Derived.OwnWalk
import Derived.Laws.BytesArg
import Derived.Laws.MakeOwn
import Derived.Laws.OwnMore
import Derived.Deep.OwnRows
import Derived.Tactics
import Derived.Lib.ConvBytes
import Derived.Laws.Slices
import Derived.WalkKit
import Derived.KernelRfl
import Derived.RowKit3
import Derived.Deep.LoopGhost
import Derived.Deep.QuietTactic
import Derived.BigQuiet
import Derived.WideLaws
import Derived.Deep.DeepCutAuto
import Derived.Deep.CutBlock
import Derived.Deep.RegionHeld3
import Derived.Laws.Rows
import Derived.Lib.AppendStr
import Derived.ArgAppend
import Derived.Laws.IdiomCopy
import Derived.OrdersHeld
import Derived.Laws.BitsLemmas
import Derived.RowKit
import Derived.Laws.StructEq
import Derived.Test.YtpflenaoplblkaaGAd
import Derived.Test.YtpflenaoplblkaaRows
import Derived.Test.YtpflenaoplblkaaGAa
import Derived.Test.YtpflenaoplblkaaGAb
import Derived.Test.YtpflenaoplblkaaProg
section
namespace Go.Proofs.Ytpflenaoplblkaa.ProQ
open Go.RowKit YtpflenaoplblkaaW.PrintWords YtpflenaoplblkaaW.PrintLast ProA ProB ProC ProI ProD ProE ProF ProG ProH ProJ ProK ProL ProM ProN ProO ProP
set_option linter.unusedVariables false
set_option linter.unusedSimpArgs false
def encParts : List PS → Flds → Option (List Int)
 | [], _ => some []
 | p :: ps, F => if fitsS p F then (encParts ps F).map (wrS p F ++ ·) else none
def clAll (ps : List PS) (F : Flds) : Flds := ps.foldl (fun r p => clS p r) F
def emptyB (F : Flds) (m : Nat) : Bool := decide (F.tn = 0) && decide (F.n = 0) && decide (F.m = 0) && F.name.toList.isEmpty && decide (m = 0)
def encS (tab : List (List PS)) (F : Flds) : Except Int (List Int) :=
 if F.kind < 1 ∨ (tab.length : Int) ≤ F.kind then .error 122 else
 match tab[F.kind.toNat]? with
 | none => .error 122
 | some ps => match encParts ps F with
  | none => .error 123
  | some body => if emptyB (clAll ps F) (clAll ps F).data.length then .ok (beB ((F.kind :: body).length : Int) 4 ++ (F.kind :: body)) else .error 123
def EncPost (w : World) (r : Except Int (List Int)) (e : Ending) (w' : World) : Prop :=
 ∃ (v : Value) (code : Int), e = .returned (.tuple #[v, .int .i64 code]) ∧ Below w.heap.size w w' ∧
  match r with | .ok bs => code = 0 ∧ Own w' w.heap.size (fun _ => True) v bs | .error q => code = q ∧ v = .slice none 0 0
set_option maxHeartbeats 2000000 in
set_option maxRecDepth 100000 in
theorem empty_any (F : Flds) (B : Option Addr) (m c : Nat) (w : World) : Calls Try.prog 47 #[.agg (F.cells (.slice B m c))] w fun e w' => e = .returned (.bool (emptyB F m)) ∧ Below w.heap.size w w' := by
 unfold Flds.cells emptyB
 have hcs : (F.tn == 0) = false ∨ ((F.tn == 0) = true ∧ (F.n == 0) = false) ∨ ((F.tn == 0) = true ∧ (F.n == 0) = true ∧ (F.m == 0) = false) ∨ ((F.tn == 0) = true ∧ (F.n == 0) = true ∧ (F.m == 0) = true ∧ F.name.toList.isEmpty = false) ∨ ((F.tn == 0) = true ∧ (F.n == 0) = true ∧ (F.m == 0) = true ∧ F.name.toList.isEmpty = true) := by
  cases (F.tn == 0) <;> cases (F.n == 0) <;> cases (F.m == 0) <;> cases F.name.toList.isEmpty <;> simp
 have e1 : decide (F.tn = 0) = (F.tn == 0) := rfl
 have e2 : decide (F.n = 0) = (F.n == 0) := rfl
 have e3 : decide (F.m = 0) = (F.m == 0) := rfl
 have e5 : decide (m = 0) = ((m : Int) == 0) := by rw [Bool.eq_iff_iff]; simp
 rw [e1, e2, e3, e5]
 clear e1 e2 e3 e5
 rcases hcs with z1 | ⟨z1, z2⟩ | ⟨z1, z2, z3⟩ | ⟨z1, z2, z3, z4⟩ | ⟨z1, z2, z3, z4⟩
 all_goals
  go_enter Try.func47, Try.ntmps47
  go_wp2_with fail
  go_ret
  exact ⟨by simp [*], by go_grown⟩
theorem own_one (W : World) (base : Nat) (x : Int) (hb : base ≤ W.heap.size) : Own (W.alloc (.cells #[.int .u8 x] 5)) base (fun _ => True) (.slice (some ⟨W.heap.size, 0, none⟩) 1 1) [x] :=
  ⟨fun k hk => trivial, OwnRow.lit W base (ps := [x]) (inner := [.int .u8 x]) ((Reps.none _ _).snoc rfl rfl) hb (by simp)⟩
theorem own_tu1 {base g t : Nat} {w w' : World} {ok : Nat → Prop} {dv : Value} {xs : List Int} {cs : Array Value} (h : Own w base ok dv xs) (hb : Blk w g cs t) (h5 : 5 ≠ t) (ht : Tu [g] w w') : Own w' base ok dv xs :=
 Kd.R_mono (Kd.R_move (Kd.R_bound (Kd.R_types h hb (fun q hq => by
  have : q = 5 := by simpa [Kd.int, Kd.scalar] using hq
  subst this
  exact h5))) (fun k hk => ht.block k hk.2.2.1 (by simp; exact hk.1.2))) (fun k hk => hk.1.1)
theorem own_ok {w : World} {base : Nat} {ok ok' : Nat → Prop} {v : Value} {xs : List Int} (h : Own w base ok v xs) (hk : ∀ k, v.ownBlock = some k → ok' k) : Own w base ok' v xs := Kd.R_of_own (Kd.own_of_R h) hk
theorem wrS_len (p : PS) (F : Flds) (m : Nat) (hm : F.data.length = m) (hs : psmall p) (hf : fitsS p F = true) : (wrS p F).length ≤ m + 21 := by
 cases p with
 | num o k l h =>
  simp only [wrS, beB_len]
  have := hs.2.1
  omega
 | name =>
  simp only [wrS, List.length_append, beB_len, bytesOf_length]
  simp only [fitsS, nameOk, Bool.and_eq_true, decide_eq_true_eq] at hf
  omega
 | blob h =>
  simp only [wrS, List.length_append, beB_len]
  omega
theorem EncSt_body {w : World} {base : Nat} {ok : Nat → Prop} {v : Value} {x : Int} {bb ys : List Int} (h : Own w base ok v ((x :: bb) ++ ys)) : Own w base (fun _ => True) v (x :: (bb ++ ys)) := Kd.R_mono (by simpa using h) (fun _ _ => trivial)
theorem own_in {w a : World} {base g n c : Nat} {ok : Nat → Prop} {xs : List Int} (h : Own w base ok (.slice (some ⟨g, 0, none⟩) n c) xs) : Own w base (okS [g] a) (.slice (some ⟨g, 0, none⟩) n c) xs :=
 own_ok h (fun k hk => .inl (by
  have : g = k := by simpa [Value.ownBlock] using hk
  simp [this]))
structure EncSt (w wr : World) (F Fr : Flds) (dv v : Value) (bs : List Int) : Prop where
 fd : FdAt wr w.heap.size F dv
 rest : ∃ B c, FdAt wr (w.heap.size + 2) Fr (.slice B Fr.data.length c)
 body : Own wr w.heap.size (fun _ => True) v bs
 below : Below w.heap.size w wr
 size : w.heap.size + 3 ≤ wr.heap.size
theorem EncSt.below' {w wr w' : World} {F Fr : Flds} {dv v : Value} {bs : List Int} (h : EncSt w wr F Fr dv v bs) (hb : Below wr.heap.size wr w') : EncSt w w' F Fr dv v bs := by
 obtain ⟨B, c, hr⟩ := h.rest
 exact ⟨Blk.below h.fd hb, ⟨B, c, Blk.below hr hb⟩, Kd.R_below h.body hb, h.below.trans (hb.mono h.below.size), by have := h.size; have := hb.size; omega⟩
theorem enc_err {w w' : World} {r : Except Int (List Int)} {q : Int} (hr : r = .error q) (hb : Below w.heap.size w w') : EncPost w r (.returned (.tuple #[.slice none 0 0, .int .i64 q])) w' := by
 subst hr
 exact ⟨_, _, rfl, hb, rfl, rfl⟩
set_option maxHeartbeats 4000000 in
set_option maxRecDepth 100000 in
theorem encode_ok (tab : List (List PS)) (w : World) (lo hi m c : Nat) (tv : Value) (B : Option Addr) (F : Flds)
  (ht : TabAt w lo hi tv tab) (hhi : hi ≤ w.heap.size) (hs : TabOk tab) (htl : tab.length ≤ 200) (hx : BytesAt w B m F.data) (hbig : m ≤ 1000000000) :
  Calls Try.prog 27 #[tv, .agg (F.cells (.slice B m c))] w (EncPost w (encS tab F)) := by
 have hlen := BytesAt.len hx
 obtain ⟨tg, tc, rfl, t1, t2, hrows⟩ := id ht
 have HT := Lib.hid ht
 have HX := Lib.hid hx
 have HL := Lib.hid hlen
 have HRW := Lib.hid hrows
 clear ht hx hlen hrows
 unfold Flds.cells
 by_cases q1 : F.kind < 1
 ·
  have d1 : decide (F.kind < 1) = true := by simpa using q1
  have HR := Lib.hid (show encS tab F = .error 122 by unfold encS; rw [if_pos (.inl q1)])
  go_enter Try.func27, Try.ntmps27
  go_wp2_with fail
  go_ret2
  exact enc_err HR.out (by go_grown)
 ·
  have d1 : decide (F.kind < 1) = false := by simpa using q1
  by_cases q2 : (tab.length : Int) ≤ F.kind
  ·
   have d2 : decide (F.kind ≥ (tab.length : Int)) = true := by simpa using q2
   have HR := Lib.hid (show encS tab F = .error 122 by unfold encS; rw [if_pos (.inr q2)])
   go_enter Try.func27, Try.ntmps27
   go_wp2_with fail
   go_ret2
   exact enc_err HR.out (by go_grown)
  ·
   have d2 : decide (F.kind ≥ (tab.length : Int)) = false := by simp; omega
   have hkl : F.kind.toNat < tab.length := by omega
   obtain ⟨ps, hps⟩ : ∃ ps, tab[F.kind.toNat]? = some ps := ⟨_, List.getElem?_eq_getElem hkl⟩
   have hsp : ∀ p ∈ ps, psmall p := hs.small ps (List.mem_of_getElem? hps)
   have hl4 := hs.len ps (List.mem_of_getElem? hps)
   obtain ⟨rv, hrc, RA, rc, hrv, hparts⟩ := HRW.out F.kind.toNat ps hps
   subst hrv
   have HRC := Lib.hid hrc
   have HP := Lib.hid hparts
   have HPS := Lib.hid hps
   clear hparts hps HRW hrc
   go_enter Try.func27, Try.ntmps27
   go_upto_region 4 with (fail)
   have hst : EncSt w (((w.alloc (Obj.cells #[Value.int IntKind.i64 F.kind, Value.int IntKind.i64 F.tn, Value.int IntKind.i64 F.n, Value.int IntKind.i64 F.m, Value.string F.name, Value.slice B m c] 71)).alloc (Obj.cells #[Value.int IntKind.u8 F.kind] 5)).alloc (Obj.cells #[Value.int IntKind.i64 F.kind, Value.int IntKind.i64 F.tn, Value.int IntKind.i64 F.n, Value.int IntKind.i64 F.m, Value.string F.name, Value.slice B m c] 71)) F F (.slice B m c) (.slice (some ⟨w.heap.size + 1, 0, none⟩) 1 1) [F.kind] :=
    ⟨blkOld (blkOld (blkNew rfl)), ⟨B, c, by rw [HL.out]; exact blkNew (by simp)⟩, Kd.R_below (by
     have h := own_one (w.alloc (Obj.cells #[Value.int IntKind.i64 F.kind, Value.int IntKind.i64 F.tn, Value.int IntKind.i64 F.n, Value.int IntKind.i64 F.m, Value.string F.name, Value.slice B m c] 71)) w.heap.size F.kind (by simp)
     simpa using h) (ba _), by go_grown, by simp⟩
   generalize (((w.alloc (Obj.cells #[Value.int IntKind.i64 F.kind, Value.int IntKind.i64 F.tn, Value.int IntKind.i64 F.n, Value.int IntKind.i64 F.m, Value.string F.name, Value.slice B m c] 71)).alloc (Obj.cells #[Value.int IntKind.u8 F.kind] 5)).alloc (Obj.cells #[Value.int IntKind.i64 F.kind, Value.int IntKind.i64 F.tn, Value.int IntKind.i64 F.n, Value.int IntKind.i64 F.m, Value.string F.name, Value.slice B m c] 71)) = W1 at hst ⊢
   have hb1 := hst.below.block tg (by omega)
   have hrc1 := cell_keep HRC.out hb1
   have kc0 : W1.cell? ⟨w.heap.size, 0, none⟩ = some (.int .i64 F.kind) := Blk.cell (i := 0) hst.fd rfl
   have HST := Lib.hid hst
   have HE := Lib.hid (show encS tab F = match encParts ps F with | none => .error 123 | some body => if emptyB (clAll ps F) (clAll ps F).data.length then .ok (beB ((F.kind :: body).length : Int) 4 ++ (F.kind :: body)) else .error 123 by
    unfold encS
    rw [if_neg (by omega), HPS.out])
   clear hst hb1 HPS HRC
   go_wp2_with fail
   go_loopw [31, 7] (fun i v wr => ∃ (j : Nat) (Fr : Flds) (bb : List Int), j ≤ ps.length ∧ i = .int .i64 j ∧ Hid (EncSt w wr F Fr (.slice B m c) v (F.kind :: bb)) ∧ Hid (bb.length ≤ j * (m + 21)) ∧ Hid (encParts ps F = (encParts (ps.drop j) F).map (bb ++ ·)) ∧ Hid (clAll ps F = clAll (ps.drop j) Fr)) (fun i _ _ => (ps.length - (intOf i).toNat))
   case atStart => exact ⟨0, F, [], by omega, rfl, HST, Lib.hid (by simp), Lib.hid (by simp), Lib.hid rfl⟩
   case round =>
    clear HST hrc1 kc0
    obtain ⟨j, Fr, bb, hj, rfl, HST, HBL, HEP, HCL⟩ := hrel
    by_cases hjl : j < ps.length
    ·
     obtain ⟨p, hp⟩ : ∃ p, ps[j]? = some p := ⟨_, List.getElem?_eq_getElem hjl⟩
     have hsm := hsp p (List.mem_of_getElem? hp)
     have hdr : ps.drop j = p :: ps.drop (j + 1) := by rw [List.drop_eq_getElem_cons hjl]; congr 1; exact (List.getElem?_eq_some_iff.1 hp).2
     obtain ⟨g, hRA, g1, g2, f0, f1, f2, f3, e0, e1, e2, e3, hpt⟩ := HP.out j p hp
     subst hRA
     have hgb := HST.out.below.block g (by omega)
     rw [Nat.mul_comm] at e0 e1 e2 e3
     obtain ⟨n0, cp0, n1, cp1, n2, cp2, n3, cp3, rfl, rfl, rfl, rfl, en0, en1, en2, en3⟩ := PartAt.fns hpt
     have ec1 := fun v => en1 (#[pt w.heap.size] ++ cp1) v
     have ec2 := fun x v => en2 (#[x, pt w.heap.size] ++ cp2) v
     have ec3 := fun v => en3 (#[pt (w.heap.size + 1 + 1)] ++ cp3) v
     have k0 := cell_keep e0 hgb
     have k1 := cell_keep e1 hgb
     have k2 := cell_keep e2 hgb
     have k3 := cell_keep e3 hgb
     have HPT := Lib.hid hpt
     have HDR := Lib.hid hdr
     have hj1000 : j ≤ 1000 := by omega
     have dl : decide ((j : Int) < (ps.length : Int)) = true := by simp; omega
     clear e0 e1 e2 e3 hpt hdr hp hgb
     go_wp2_with fail
     have hst1 := HST.out.below' (ba (Obj.cells #[Value.func (Fn.func n0) #[] cp0, Value.func (Fn.func n1) #[] cp1, Value.func (Fn.func n2) #[] cp2, Value.func (Fn.func n3) #[] cp3] 91))
     have hbp : Blk (wr.alloc (Obj.cells #[Value.func (Fn.func n0) #[] cp0, Value.func (Fn.func n1) #[] cp1, Value.func (Fn.func n2) #[] cp2, Value.func (Fn.func n3) #[] cp3] 91)) wr.heap.size #[Value.func (Fn.func n0) #[] cp0, Value.func (Fn.func n1) #[] cp1, Value.func (Fn.func n2) #[] cp2, Value.func (Fn.func n3) #[] cp3] 91 := blkNew rfl
     have hsz0 := HST.out.size
     generalize wr.alloc (Obj.cells #[Value.func (Fn.func n0) #[] cp0, Value.func (Fn.func n1) #[] cp1, Value.func (Fn.func n2) #[] cp2, Value.func (Fn.func n3) #[] cp3] 91) = W2 at hst1 hbp ⊢
     clear HST k0 k1 k2 k3
     refine (FCalls.calls (part_fits p W2 lo hi w.heap.size _ _ _ _ B m c F (HPT.out.step (fun q _ hq => hst1.below.block q (by omega)) (Nat.le_refl _) (Nat.le_refl _)) hst1.fd HL.out)).mono ?_
     rintro e w3 ⟨rfl, hb3⟩
     have hst3 := hst1.below' hb3
     have hbp3 := Blk.below hbp hb3
     have kb2 := Blk.cell (i := 2) hbp3 rfl
     have HST3 := Lib.hid hst3
     have HBP3 := Lib.hid hbp3
     clear hst1 hst3 hbp hbp3 hb3
     cases hfit : fitsS p F with
     | false =>
      have HR := Lib.hid (show encS tab F = .error 123 by
       rw [HE.out, HEP.out, HDR.out]
       simp [encParts, hfit])
      go_wp2_with fail
      go_ret2
      exact enc_err HR.out HST3.out.below
     | true =>
      have HFIT := Lib.hid hfit
      clear hfit
      go_wp2_with fail
      have hst3 := HST3.out
      have hbase := Kd.R_base hst3.body
      have hff : w.heap.size ∉ u7.ownBlock.toList := by
       have := Kd.R_ne hst3.body hst3.fd (by decide)
       simpa [eq_comm] using this
      obtain ⟨Br, cr, hrest⟩ := hst3.rest
      have hrr : w.heap.size + 2 ∉ u7.ownBlock.toList := by
       have := Kd.R_ne hst3.body hrest (by decide)
       simpa [eq_comm] using this
      have hpp : wr.heap.size ∉ u7.ownBlock.toList := by
       have := Kd.R_ne hst3.body HBP3.out (by decide)
       simpa [eq_comm] using this
      have hbl := HBL.out
      have hml : j * (m + 21) ≤ 1000 * (m + 21) := Nat.mul_le_mul_right _ hj1000
      generalize j * (m + 21) = jm at hbl hml
      refine (FCalls.calls (part_write p w3 lo hi w.heap.size w.heap.size u7.ownBlock.toList _ _ _ _ u7 B m c _ F (HPT.out.step (fun q _ hq => hst3.below.block q (by omega)) (Nat.le_refl _) (Nat.le_refl _)) hsm hst3.fd (BytesAt.below (B := 0) HX.out hst3.below) (fun a ha hm0 hk => by
       have h1 := BytesAt.lt HX.out hm0 a ha
       have h2 := hbase a.block (by simpa [eq_comm] using hk)
       omega) hff (own_ok hst3.body (fun k hk => .inl (by simp [hk]))) hst3.below.size (by rw [List.length_cons]; omega) (by omega) HFIT.out)).mono ?_
      rintro e w4 ⟨v4, rfl, ho4, ht4, hb4⟩
      have hfd4 := Blk.tu hst3.fd ht4 hff
      have hr4 := Blk.tu hrest ht4 hrr
      have hbp4 := Blk.tu HBP3.out ht4 hpp
      have kb3 := Blk.cell (i := 3) hbp4 rfl
      have hB4 := hst3.below.trans hb4
      have hsz4 := ht4.size
      have hsz3 := hst3.size
      have HFD4 := Lib.hid hfd4
      have HR4 := Lib.hid hr4
      have HB4 := Lib.hid hB4
      have HO4 := Lib.hid (EncSt_body ho4)
      have HWL := Lib.hid (wrS_len p F m HL.out hsm HFIT.out)
      clear hst3 hrest hfd4 hr4 hbp4 hB4 ho4 ht4 hb4 hff hrr hpp hbase hbl hml kb2
      go_wp2_with fail
      refine (FCalls.calls (part_clear p w4 lo hi (w.heap.size + 2) _ _ _ _ _ Fr (HPT.out.step (fun q _ hq => HB4.out.block q (by omega)) (Nat.le_refl _) (Nat.le_refl _)) HR4.out)).mono ?_
      rintro e w5 ⟨dv5, rfl, hf5, hd5, ht5⟩
      have hst5 : EncSt w w5 F (clS p Fr) (.slice B m c) v4 (F.kind :: (bb ++ wrS p F)) := by
       refine ⟨Blk.tu HFD4.out ht5 (by simp), ?_, own_tu1 HO4.out HR4.out (by decide) ht5, HB4.out.trans (ht5.below HB4.out.size (by simp)), by have := ht5.size; omega⟩
       rcases hd5 with ⟨rfl, h2⟩ | ⟨rfl, h2⟩
       · exact ⟨Br, cr, by rw [h2]; exact hf5⟩
       · exact ⟨none, 0, by rw [h2]; exact hf5⟩
      have HST5 := Lib.hid hst5
      clear hst5 hf5 hd5 ht5
      go_wp2_with fail
      refine ⟨⟨j + 1, clS p Fr, bb ++ wrS p F, by omega, by go_num, HST5, Lib.hid ?_, Lib.hid ?_, Lib.hid ?_⟩, by simp [intOf]; omega⟩
      ·
       have h1 := HBL.out
       have h2 := HWL.out
       rw [List.length_append, Nat.succ_mul]
       exact Nat.add_le_add h1 h2
      ·
       rw [HEP.out, HDR.out]
       simp only [encParts, HFIT.out, if_true, Option.map_map]
       congr 1
       funext l
       simp
      ·
       rw [HCL.out, HDR.out]
       rfl
    ·
     have hjj : j = ps.length := by omega
     have dl : decide ((j : Int) < (ps.length : Int)) = false := by simp; omega
     have hst := HST.out
     obtain ⟨Br, cr, hrest⟩ := hst.rest
     obtain ⟨A7, c7, hv7, hc7, hr7⟩ := Kd.R_reads hst.body
     subst hv7
     have hn7 : (F.kind :: bb).length ≤ 1000 * (m + 21) + 1 := by
      have h1 := HBL.out
      have h2 : j * (m + 21) ≤ 1000 * (m + 21) := Nat.mul_le_mul_right _ (by omega)
      exact Nat.succ_le_succ (Nat.le_trans h1 h2)
     generalize hnn : (F.kind :: bb).length = n7 at hn7 hc7 hr7
     have HR7 := Lib.hid hr7
     have HN7 := Lib.hid hnn
     have HE2 := Lib.hid (show encS tab F = if emptyB Fr Fr.data.length then .ok (beB (n7 : Int) 4 ++ (F.kind :: bb)) else .error 123 by
      have h1 : encParts ps F = some bb := by rw [HEP.out, hjj, List.drop_length]; simp [encParts]
      have h2 : clAll ps F = Fr := by rw [HCL.out, hjj, List.drop_length]; rfl
      rw [HE.out, h1, h2]
      simp only
      rw [hnn])
     obtain ⟨c0, c1, c2, c3, c4, c5⟩ := fdCells hrest
     have HS := Lib.hid hst.below
     clear hst hrest hr7 HST HBL HEP HCL HE hjj hnn
     cases hemp : emptyB Fr Fr.data.length with
     | false =>
      go_wp2_with (refine (empty_any Fr Br _ cr wr).mono ?_; rw [hemp]; rintro e w3 ⟨rfl, hb3⟩)
      go_ret2
      exact enc_err (by rw [HE2.out, hemp]; rfl) (HS.out.trans (hb3.mono HS.out.size))
     | true =>
      have HEMP := Lib.hid hemp
      obtain ⟨i5, hi5, hz5a, hz5b, hz5c⟩ := info_parts info5
      go_wp2_with (first
       | (refine (empty_any Fr Br _ cr wr).mono ?_; rw [hemp]; rintro e w3 ⟨rfl, hb3⟩; have HB3 := Lib.hid hb3; clear hb3)
       | (at_make; refine wpList_make_own _ rfl (.const (.int .i64 0)) (.tmp 52) 22 rfl w.heap.size 5 i5 (.int .u8 0) 1 Try.underlying22 hi5 hz5a hz5b .i64 .i64 _ (4 + n7) rfl rfl ?hC ?hb2 ?hb3 ?hb4 ?_; (case hC => omega); (case hb2 => rw [hz5c]; omega); (case hb3 => unfold maxLen; omega); (case hb4 => exact Nat.le_trans HS.out.size HB3.out.size); intro w4 ho4 hg4; have HO4 := Lib.hid (Kd.R_of_own (h1 := fun _ => rfl) (enc := Value.int .u8) (xs := []) (ok := fun _ => True) ho4 (fun _ _ => trivial)); have HG4 := Lib.hid hg4; clear ho4 hg4)
       | (go_at_call 48; have hsz4 : w.heap.size ≤ w4.heap.size := Nat.le_trans (Nat.le_trans HS.out.size HB3.out.size) HG4.out.size; refine (put_ok w.heap.size [w3.heap.size] _ [] (n7 : Int) 4 _ (own_in HO4.out) hsz4 (by omega) (by omega) (by omega) (by simp)).mono ?_; rintro e w5 ⟨v5, rfl, ho5, ht5, hb5⟩; have HO5 := Lib.hid ho5; have HT5 := Lib.hid ht5; have HB5 := Lib.hid hb5; clear ho5 ht5 hb5)
       | ((with_reducible refine gate_builtin (b := .append) (xs := #[.tmp 56, .tmp 57]) rfl ?_); at_builtin; have hB3 := HS.out.trans (HB3.out.mono HS.out.size); have hB5 : Below w.heap.size w w5 := (hB3.grown HG4.out hB3.size (by simp)).trans HB5.out; have hrd : BytesAt w5 A7 n7 (F.kind :: bb) := BytesAt.tu (BytesAt.tu (S := []) (BytesAt.below (B := 0) HR7.out HB3.out) ((Tu.refl _ _).grown HG4.out (by simp)) (by simp)) HT5.out (fun a ha hn hm => (by have h1 := BytesAt.lt (BytesAt.below (B := 0) HR7.out HB3.out) hn a ha; simp at hm; omega)); refine app_bytes (w0 := w) w.heap.size rfl (.tmp 56) (.tmp 57) rfl v5 ([] ++ beB (n7 : Int) 4) (F.kind :: bb) A7 n7 c7 (fun _ => True) rfl rfl (Kd.R_mono HO5.out (fun _ _ => trivial)) hrd (fun _ _ => trivial) hB5 hB5.size ?hl ?_; (case hl => simp [beB_len]; omega); intro v6 w6 ho6 hb6 hg6 hat6; clear hrd hB3 hB5 hg6 hat6; have HO6 := Lib.hid ho6; have HB6 := Lib.hid hb6; clear ho6 hb6))
      go_ret2
      refine ⟨v6, 0, rfl, HB6.out, ?_⟩
      rw [HE2.out, HEMP.out]
      exact ⟨rfl, HO6.out⟩
end Go.Proofs.Ytpflenaoplblkaa.ProQ
end
section
namespace Go.Proofs.Ytpflenaoplblkaa.ProR
open Go.RowKit YtpflenaoplblkaaW.PrintWords YtpflenaoplblkaaW.PrintLast ProA ProB ProC ProI ProD ProE ProF ProG ProH ProJ ProK ProL ProM ProN ProO ProP ProQ
set_option linter.unusedVariables false
set_option linter.unusedSimpArgs false
def fldM (M : S35) : Flds := ⟨M.f0, M.f1, M.f3, 0, M.f2, M.f4⟩
def fldR (M : S44) : Flds := ⟨M.f0, 0, M.f1, M.f2, ByteArray.empty, M.f3⟩
theorem enc_lift {w w1 w2 : World} {r : Except Int (List Int)} {e : Ending} {w' : World} (h : EncPost w2 r e w') (h1 : Below w.heap.size w w2) : EncPost w r e w' := by
 obtain ⟨v, code, rfl, hb, hc⟩ := h
 refine ⟨v, code, rfl, h1.trans (hb.mono h1.size), ?_⟩
 cases r with
 | error q => exact hc
 | ok bs => exact ⟨hc.1, Kd.R_lower hc.2 h1.size⟩
theorem msgTab_len : msgTab.length ≤ 200 := by decide
theorem repTab_len : repTab.length ≤ 200 := by decide
set_option maxHeartbeats 2000000 in
set_option maxRecDepth 100000 in
theorem Encode_ok (M : S35) (B : Option Addr) (m c : Nat) (w : World) (hx : BytesAt w B m M.f4) (hbig : m ≤ 1000000000) :
  Calls Try.prog 15 #[.agg #[.int .i64 M.f0, .int .i64 M.f1, .string M.f2, .int .i64 M.f3, .slice B m c]] w (EncPost w (encS msgTab (fldM M))) := by
 go_enter Try.func15, Try.ntmps15
 go_wp2_with fail
 have hb0 : Blk (w.alloc (.cells #[.int .i64 M.f0, .int .i64 M.f1, .string M.f2, .int .i64 M.f3, .slice B m c] 35)) w.heap.size #[.int .i64 M.f0, .int .i64 M.f1, .string M.f2, .int .i64 M.f3, .slice B m c] 35 := blkNew rfl
 refine start_ (n := 17) (S := fun w' => w'.cell? ⟨w.heap.size, 0, none⟩ = some (.int .i64 M.f0) ∧ w'.cell? ⟨w.heap.size, 1, none⟩ = some (.int .i64 M.f1) ∧ w'.cell? ⟨w.heap.size, 2, none⟩ = some (.string M.f2) ∧ w'.cell? ⟨w.heap.size, 3, none⟩ = some (.int .i64 M.f3) ∧ w'.cell? ⟨w.heap.size, 4, none⟩ = some (.slice B m c)) (ds := [12]) #[false, false, false, false, false, false, false, false, false, false, false, false, false, false, false, false, false] (by kernel_rfl) rfl rfl ⟨Blk.cell (i := 0) hb0 rfl, Blk.cell (i := 1) hb0 rfl, Blk.cell (i := 2) hb0 rfl, Blk.cell (i := 3) hb0 rfl, Blk.cell (i := 4) hb0 rfl⟩ (fun hHeld => ?_)
 refine pu_ (i := 1) (N := some 5) (v := ?_) (a' := ?_) rfl rfl (by kernel_rfl) (fun _ _ _ h => h) (by rfl) ?_ ?_ ?_
 rotate_left
 · (intro w'; go_simp; with_reducible rfl)
 rotate_left
 · (simp only [put_s, List.set, i64_w, i32_w]; rfl)
 refine tk_ (i := 2) (N := some 6) (v := ?_) (a' := ?_) rfl rfl (by kernel_rfl) (fun _ _ _ h => h) (by rfl) ?_ hHeld ?_ ?_
 rotate_left
 · (intro w' s0; go_simp; with_reducible rfl)
 rotate_left
 · (simp only [put_s, List.set, i64_w, i32_w]; rfl)
 refine pu_ (i := 3) (N := some 7) (v := ?_) (a' := ?_) rfl rfl (by kernel_rfl) (fun _ _ _ h => h) (by rfl) ?_ ?_ ?_
 rotate_left
 · (intro w'; go_simp; with_reducible rfl)
 rotate_left
 · (simp only [put_s, List.set, i64_w, i32_w]; rfl)
 refine tk_ (i := 4) (N := some 8) (v := ?_) (a' := ?_) rfl rfl (by kernel_rfl) (fun _ _ _ h => h) (by rfl) ?_ hHeld ?_ ?_
 rotate_left
 · (intro w' s0; go_simp; with_reducible rfl)
 rotate_left
 · (simp only [put_s, List.set, i64_w, i32_w]; rfl)
 refine pu_ (i := 5) (N := some 9) (v := ?_) (a' := ?_) rfl rfl (by kernel_rfl) (fun _ _ _ h => h) (by rfl) ?_ ?_ ?_
 rotate_left
 · (intro w'; go_simp; with_reducible rfl)
 rotate_left
 · (simp only [put_s, List.set, i64_w, i32_w]; rfl)
 refine tk_ (i := 6) (N := some 10) (v := ?_) (a' := ?_) rfl rfl (by kernel_rfl) (fun _ _ _ h => h) (by rfl) ?_ hHeld ?_ ?_
 rotate_left
 · (intro w' s0; go_simp; with_reducible rfl)
 rotate_left
 · (simp only [put_s, List.set, i64_w, i32_w]; rfl)
 refine pu_ (i := 7) (N := some 11) (v := ?_) (a' := ?_) rfl rfl (by kernel_rfl) (fun _ _ _ h => h) (by rfl) ?_ ?_ ?_
 rotate_left
 · (intro w'; go_simp; with_reducible rfl)
 rotate_left
 · (simp only [put_s, List.set, i64_w, i32_w]; rfl)
 refine tk_ (i := 8) (N := some 12) (v := ?_) (a' := ?_) rfl rfl (by kernel_rfl) (fun _ _ _ h => h) (by rfl) ?_ hHeld ?_ ?_
 rotate_left
 · (intro w' s0; go_simp; with_reducible rfl)
 rotate_left
 · (simp only [put_s, List.set, i64_w, i32_w]; rfl)
 refine pu_ (i := 9) (N := some 13) (v := ?_) (a' := ?_) rfl rfl (by kernel_rfl) (fun _ _ _ h => h) (by rfl) ?_ ?_ ?_
 rotate_left
 · (intro w'; go_simp; with_reducible rfl)
 rotate_left
 · (simp only [put_s, List.set, i64_w, i32_w]; rfl)
 refine tk_ (i := 10) (N := some 14) (v := ?_) (a' := ?_) rfl rfl (by kernel_rfl) (fun _ _ _ h => h) (by rfl) ?_ hHeld ?_ ?_
 rotate_left
 · (intro w' s0; go_simp; with_reducible rfl)
 rotate_left
 · (simp only [put_s, List.set, i64_w, i32_w]; rfl)
 refine pu_ (i := 11) (N := some 15) (v := ?_) (a' := ?_) rfl rfl (by kernel_rfl) (fun _ _ _ h => h) (by rfl) ?_ ?_ ?_
 rotate_left
 · (intro w'; go_simp; with_reducible rfl)
 rotate_left
 · (simp only [put_s, List.set, i64_w, i32_w]; rfl)
 refine on_ (i := 0) (N := some 4) rfl rfl (by kernel_rfl) (by decide) (fun K hK => ?_)
 refine goesV #[] Try.func23 (by kernel_rfl) rfl #[] (by rfl) rfl rfl rfl (by simp [Act.eval]) ?_
 refine Calls.mono (messages_ok _) ?_
 rintro e w2 ⟨tv, rfl, htab, hb2⟩
 have hbb : Below w.heap.size w w2 := by
  have h1 : Below w.heap.size w (w.alloc (.cells #[.int .i64 M.f0, .int .i64 M.f1, .string M.f2, .int .i64 M.f3, .slice B m c] 35)) := ba _
  exact h1.trans (Below.trans (Below.drew (Below.refl _ _)) (hb2.mono (by simp)))
 have hb3 : Blk w2 w.heap.size #[.int .i64 M.f0, .int .i64 M.f1, .string M.f2, .int .i64 M.f3, .slice B m c] 35 := (hb2.block w.heap.size (by simp)).trans hb0
 have hS2 : w2.cell? ⟨w.heap.size, 0, none⟩ = some (.int .i64 M.f0) ∧ w2.cell? ⟨w.heap.size, 1, none⟩ = some (.int .i64 M.f1) ∧ w2.cell? ⟨w.heap.size, 2, none⟩ = some (.string M.f2) ∧ w2.cell? ⟨w.heap.size, 3, none⟩ = some (.int .i64 M.f3) ∧ w2.cell? ⟨w.heap.size, 4, none⟩ = some (.slice B m c) := ⟨Blk.cell (i := 0) hb3 rfl, Blk.cell (i := 1) hb3 rfl, Blk.cell (i := 2) hb3 rfl, Blk.cell (i := 3) hb3 rfl, Blk.cell (i := 4) hb3 rfl⟩
 refine .inl ⟨_, rfl, ?_⟩
 refine hK.out _ _ hS2 (fun hHeld => ?_)
 clear hK K
 refine norm_ (a' := ?_) ?_ ?_
 rotate_left
 ·
  show Act.put _ (some 4) _ = _
  simp only [put_s, List.set, i64_w, i32_w]
  rfl
 refine la_ (i := 12) (N := some 16) rfl rfl (by kernel_rfl) (by decide) (fun K hK => ?_)
 refine goesV #[] Try.func27 (by kernel_rfl) rfl #[tv, .agg #[.int .i64 M.f0, .int .i64 M.f1, .int .i64 M.f3, .int .i64 0, .string M.f2, .slice B m c]] (by rfl) rfl rfl rfl (by simp [Act.eval]) ?_
 refine Calls.mono (encode_ok msgTab w2 _ _ m c tv B (fldM M) htab (Nat.le_refl _) msgTab_ok msgTab_len (BytesAt.below (B := 0) hx hbb) hbig) ?_
 rintro e w3 hpost
 have hp := enc_lift (w1 := w) hpost hbb
 obtain ⟨v, code, rfl, hbx, hcx⟩ := hp
 refine .inl ⟨_, rfl, ?_⟩
 refine hK.out _ _ ?_
 clear hK K
 refine norm_ (a' := ?_) ?_ ?_
 rotate_left
 ·
  show Act.put _ (some 16) _ = _
  simp only [put_s, List.set, i64_w, i32_w]
  rfl
 refine pu_ (i := 13) (N := some 17) (v := ?_) (a' := ?_) rfl rfl (by kernel_rfl) (fun _ _ _ h => h) (by rfl) ?_ ?_ ?_
 rotate_left
 · (intro w'; go_simp; with_reducible rfl)
 rotate_left
 · (simp only [put_s, List.set, i64_w, i32_w]; rfl)
 refine pu_ (i := 14) (N := some 18) (v := ?_) (a' := ?_) rfl rfl (by kernel_rfl) (fun _ _ _ h => h) (by rfl) ?_ ?_ ?_
 rotate_left
 · (intro w'; go_simp; with_reducible rfl)
 rotate_left
 · (simp only [put_s, List.set, i64_w, i32_w]; rfl)
 refine pu_ (i := 15) (N := some 2) (v := ?_) (a' := ?_) rfl rfl (by kernel_rfl) (fun _ _ _ h => h) (by rfl) ?_ ?_ ?_
 rotate_left
 · (intro w'; go_simp; with_reducible rfl)
 rotate_left
 · (simp only [put_s, List.set, i64_w, i32_w]; rfl)
 refine pu_ (i := 16) (N := some 3) (v := ?_) (a' := ?_) rfl rfl (by kernel_rfl) (fun _ _ _ h => h) (by rfl) ?_ ?_ ?_
 rotate_left
 · (intro w'; go_simp; with_reducible rfl)
 rotate_left
 · (simp only [put_s, List.set, i64_w, i32_w]; rfl)
 refine done_ (by kernel_rfl) ?_
 go_wp2
 go_ret2
 exact ⟨v, code, rfl, hbx, hcx⟩
set_option maxHeartbeats 2000000 in
set_option maxRecDepth 100000 in
theorem EncodeReply_ok (M : S44) (B : Option Addr) (m c : Nat) (w : World) (hx : BytesAt w B m M.f3) (hbig : m ≤ 1000000000) :
  Calls Try.prog 16 #[.agg #[.int .i64 M.f0, .int .i64 M.f1, .int .i64 M.f2, .slice B m c]] w (EncPost w (encS repTab (fldR M))) := by
 go_enter Try.func16, Try.ntmps16
 go_wp2_with fail
 have hb0 : Blk (w.alloc (.cells #[.int .i64 M.f0, .int .i64 M.f1, .int .i64 M.f2, .slice B m c] 44)) w.heap.size #[.int .i64 M.f0, .int .i64 M.f1, .int .i64 M.f2, .slice B m c] 44 := blkNew rfl
 refine start_ (n := 15) (S := fun w' => w'.cell? ⟨w.heap.size, 0, none⟩ = some (.int .i64 M.f0) ∧ w'.cell? ⟨w.heap.size, 1, none⟩ = some (.int .i64 M.f1) ∧ w'.cell? ⟨w.heap.size, 2, none⟩ = some (.int .i64 M.f2) ∧ w'.cell? ⟨w.heap.size, 3, none⟩ = some (.slice B m c)) (ds := [10]) #[false, false, false, false, false, false, false, false, false, false, false, false, false, false, false] (by kernel_rfl) rfl rfl ⟨Blk.cell (i := 0) hb0 rfl, Blk.cell (i := 1) hb0 rfl, Blk.cell (i := 2) hb0 rfl, Blk.cell (i := 3) hb0 rfl⟩ (fun hHeld => ?_)
 refine pu_ (i := 1) (N := some 5) (v := ?_) (a' := ?_) rfl rfl (by kernel_rfl) (fun _ _ _ h => h) (by rfl) ?_ ?_ ?_
 rotate_left
 · (intro w'; go_simp; with_reducible rfl)
 rotate_left
 · (simp only [put_s, List.set, i64_w, i32_w]; rfl)
 refine tk_ (i := 2) (N := some 6) (v := ?_) (a' := ?_) rfl rfl (by kernel_rfl) (fun _ _ _ h => h) (by rfl) ?_ hHeld ?_ ?_
 rotate_left
 · (intro w' s0; go_simp; with_reducible rfl)
 rotate_left
 · (simp only [put_s, List.set, i64_w, i32_w]; rfl)
 refine pu_ (i := 3) (N := some 7) (v := ?_) (a' := ?_) rfl rfl (by kernel_rfl) (fun _ _ _ h => h) (by rfl) ?_ ?_ ?_
 rotate_left
 · (intro w'; go_simp; with_reducible rfl)
 rotate_left
 · (simp only [put_s, List.set, i64_w, i32_w]; rfl)
 refine tk_ (i := 4) (N := some 8) (v := ?_) (a' := ?_) rfl rfl (by kernel_rfl) (fun _ _ _ h => h) (by rfl) ?_ hHeld ?_ ?_
 rotate_left
 · (intro w' s0; go_simp; with_reducible rfl)
 rotate_left
 · (simp only [put_s, List.set, i64_w, i32_w]; rfl)
 refine pu_ (i := 5) (N := some 9) (v := ?_) (a' := ?_) rfl rfl (by kernel_rfl) (fun _ _ _ h => h) (by rfl) ?_ ?_ ?_
 rotate_left
 · (intro w'; go_simp; with_reducible rfl)
 rotate_left
 · (simp only [put_s, List.set, i64_w, i32_w]; rfl)
 refine tk_ (i := 6) (N := some 10) (v := ?_) (a' := ?_) rfl rfl (by kernel_rfl) (fun _ _ _ h => h) (by rfl) ?_ hHeld ?_ ?_
 rotate_left
 · (intro w' s0; go_simp; with_reducible rfl)
 rotate_left
 · (simp only [put_s, List.set, i64_w, i32_w]; rfl)
 refine pu_ (i := 7) (N := some 11) (v := ?_) (a' := ?_) rfl rfl (by kernel_rfl) (fun _ _ _ h => h) (by rfl) ?_ ?_ ?_
 rotate_left
 · (intro w'; go_simp; with_reducible rfl)
 rotate_left
 · (simp only [put_s, List.set, i64_w, i32_w]; rfl)
 refine tk_ (i := 8) (N := some 12) (v := ?_) (a' := ?_) rfl rfl (by kernel_rfl) (fun _ _ _ h => h) (by rfl) ?_ hHeld ?_ ?_
 rotate_left
 · (intro w' s0; go_simp; with_reducible rfl)
 rotate_left
 · (simp only [put_s, List.set, i64_w, i32_w]; rfl)
 refine pu_ (i := 9) (N := some 13) (v := ?_) (a' := ?_) rfl rfl (by kernel_rfl) (fun _ _ _ h => h) (by rfl) ?_ ?_ ?_
 rotate_left
 · (intro w'; go_simp; with_reducible rfl)
 rotate_left
 · (simp only [put_s, List.set, i64_w, i32_w]; rfl)
 refine on_ (i := 0) (N := some 4) rfl rfl (by kernel_rfl) (by decide) (fun K hK => ?_)
 refine goesV #[] Try.func28 (by kernel_rfl) rfl #[] (by rfl) rfl rfl rfl (by simp [Act.eval]) ?_
 refine Calls.mono (replies_ok _) ?_
 rintro e w2 ⟨tv, rfl, htab, hb2⟩
 have hbb : Below w.heap.size w w2 := by
  have h1 : Below w.heap.size w (w.alloc (.cells #[.int .i64 M.f0, .int .i64 M.f1, .int .i64 M.f2, .slice B m c] 44)) := ba _
  exact h1.trans (Below.trans (Below.drew (Below.refl _ _)) (hb2.mono (by simp)))
 have hb3 : Blk w2 w.heap.size #[.int .i64 M.f0, .int .i64 M.f1, .int .i64 M.f2, .slice B m c] 44 := (hb2.block w.heap.size (by simp)).trans hb0
 have hS2 : w2.cell? ⟨w.heap.size, 0, none⟩ = some (.int .i64 M.f0) ∧ w2.cell? ⟨w.heap.size, 1, none⟩ = some (.int .i64 M.f1) ∧ w2.cell? ⟨w.heap.size, 2, none⟩ = some (.int .i64 M.f2) ∧ w2.cell? ⟨w.heap.size, 3, none⟩ = some (.slice B m c) := ⟨Blk.cell (i := 0) hb3 rfl, Blk.cell (i := 1) hb3 rfl, Blk.cell (i := 2) hb3 rfl, Blk.cell (i := 3) hb3 rfl⟩
 refine .inl ⟨_, rfl, ?_⟩
 refine hK.out _ _ hS2 (fun hHeld => ?_)
 clear hK K
 refine norm_ (a' := ?_) ?_ ?_
 rotate_left
 ·
  show Act.put _ (some 4) _ = _
  simp only [put_s, List.set, i64_w, i32_w]
  rfl
 refine la_ (i := 10) (N := some 14) rfl rfl (by kernel_rfl) (by decide) (fun K hK => ?_)
 refine goesV #[] Try.func27 (by kernel_rfl) rfl #[tv, .agg #[.int .i64 M.f0, .int .i64 0, .int .i64 M.f1, .int .i64 M.f2, .string ⟨#[]⟩, .slice B m c]] (by rfl) rfl rfl rfl (by simp [Act.eval]) ?_
 refine Calls.mono (encode_ok repTab w2 _ _ m c tv B (fldR M) htab (Nat.le_refl _) repTab_ok repTab_len (BytesAt.below (B := 0) hx hbb) hbig) ?_
 rintro e w3 hpost
 have hp := enc_lift (w1 := w) hpost hbb
 obtain ⟨v, code, rfl, hbx, hcx⟩ := hp
 refine .inl ⟨_, rfl, ?_⟩
 refine hK.out _ _ ?_
 clear hK K
 refine norm_ (a' := ?_) ?_ ?_
 rotate_left
 ·
  show Act.put _ (some 14) _ = _
  simp only [put_s, List.set, i64_w, i32_w]
  rfl
 refine pu_ (i := 11) (N := some 15) (v := ?_) (a' := ?_) rfl rfl (by kernel_rfl) (fun _ _ _ h => h) (by rfl) ?_ ?_ ?_
 rotate_left
 · (intro w'; go_simp; with_reducible rfl)
 rotate_left
 · (simp only [put_s, List.set, i64_w, i32_w]; rfl)
 refine pu_ (i := 12) (N := some 16) (v := ?_) (a' := ?_) rfl rfl (by kernel_rfl) (fun _ _ _ h => h) (by rfl) ?_ ?_ ?_
 rotate_left
 · (intro w'; go_simp; with_reducible rfl)
 rotate_left
 · (simp only [put_s, List.set, i64_w, i32_w]; rfl)
 refine pu_ (i := 13) (N := some 2) (v := ?_) (a' := ?_) rfl rfl (by kernel_rfl) (fun _ _ _ h => h) (by rfl) ?_ ?_ ?_
 rotate_left
 · (intro w'; go_simp; with_reducible rfl)
 rotate_left
 · (simp only [put_s, List.set, i64_w, i32_w]; rfl)
 refine pu_ (i := 14) (N := some 3) (v := ?_) (a' := ?_) rfl rfl (by kernel_rfl) (fun _ _ _ h => h) (by rfl) ?_ ?_ ?_
 rotate_left
 · (intro w'; go_simp; with_reducible rfl)
 rotate_left
 · (simp only [put_s, List.set, i64_w, i32_w]; rfl)
 refine done_ (by kernel_rfl) ?_
 go_wp2
 go_ret2
 exact ⟨v, code, rfl, hbx, hcx⟩
theorem new_ok (w : World) : Calls Try.prog 9 #[] w fun e w' => e = .returned (pt w.heap.size) ∧ w.alloc (.cells #[.slice none 0 0, .bool false] 67) = w' := by
 go_enter Try.func9, Try.ntmps9
 go_wp2_with fail
 go_ret
 exact ⟨rfl, rfl⟩
theorem poisoned_ok (w : World) (g : Nat) (v : Value) (b : Bool) (h : Blk w g #[v, .bool b] 67) : Calls Try.prog 12 #[pt g] w fun e w' => e = .returned (.bool b) ∧ w = w' := by
 have h1 : w.cell? ⟨g, 1, none⟩ = some (.bool b) := Blk.cell (i := 1) h rfl
 go_enter Try.func12, Try.ntmps12
 go_wp2_with fail
 go_ret
 exact ⟨rfl, rfl⟩
theorem waiting_ok (w : World) (g : Nat) (A : Option Addr) (n c : Nat) (x : Value) (h : Blk w g #[.slice A n c, x] 67) : Calls Try.prog 13 #[pt g] w fun e w' => e = .returned (.int .i64 n) ∧ w = w' := by
 have h1 : w.cell? ⟨g, 0, none⟩ = some (.slice A n c) := Blk.cell (i := 0) h rfl
 go_enter Try.func13, Try.ntmps13
 go_wp2_with fail
 go_ret
 exact ⟨rfl, rfl⟩
end Go.Proofs.Ytpflenaoplblkaa.ProR
end
section
namespace Go.Proofs.Ytpflenaoplblkaa.ProS
open Go.RowKit YtpflenaoplblkaaW.PrintWords YtpflenaoplblkaaW.PrintLast ProA ProB ProC ProI ProD ProE ProF ProG ProH ProJ ProK ProL ProM ProN ProO ProP ProQ ProR
set_option linter.unusedVariables false
set_option linter.unusedSimpArgs false
def repL (tab : List (List PS)) : Nat → List Int → List Flds × Nat × Int
 | 0, b => ([], 0, 0)
 | k + 1, b => match cutS tab b with
  | .error q => ([], 0, q)
  | .ok none => ([], 0, 0)
  | .ok (some (F, n)) => (F :: (repL tab k (b.drop n)).1, n + (repL tab k (b.drop n)).2.1, (repL tab k (b.drop n)).2.2)
def repS (tab : List (List PS)) (b : List Int) : List Flds × Nat × Int := repL tab (b.length + 1) b
theorem repL_more {tab : List (List PS)} : ∀ (k : Nat) (b : List Int), b.length < k → repL tab (k + 1) b = repL tab k b := by
 intro k
 induction k with
 | zero => intro b h; omega
 | succ k ih =>
  intro b h
  rw [repL]
  conv => rhs; rw [repL]
  cases hc : cutS tab b with
  | error q => rfl
  | ok r =>
   cases r with
   | none => rfl
   | some x =>
    obtain ⟨F, n⟩ := x
    obtain ⟨h1, h2, _⟩ := cutS_some hc
    have : (b.drop n).length < k := by rw [List.length_drop]; omega
    simp only
    rw [ih _ this]
theorem repL_enough {tab : List (List PS)} (b : List Int) : ∀ (j : Nat), repL tab (b.length + 1 + j) b = repS tab b
 | 0 => rfl
 | j + 1 => by rw [show b.length + 1 + (j + 1) = (b.length + 1 + j) + 1 by omega, repL_more _ _ (by omega)]; exact repL_enough b j
theorem repS_err {tab : List (List PS)} {b : List Int} {q : Int} (h : cutS tab b = .error q) : repS tab b = ([], 0, q) := by
 unfold repS repL
 rw [h]
theorem repS_wait {tab : List (List PS)} {b : List Int} (h : cutS tab b = .ok none) : repS tab b = ([], 0, 0) := by
 unfold repS repL
 rw [h]
theorem repS_step {tab : List (List PS)} {b : List Int} {F : Flds} {n : Nat} (h : cutS tab b = .ok (some (F, n))) : repS tab b = (F :: (repS tab (b.drop n)).1, n + (repS tab (b.drop n)).2.1, (repS tab (b.drop n)).2.2) := by
 obtain ⟨h1, h2, _⟩ := cutS_some h
 conv => lhs; unfold repS repL
 rw [h]
 simp only
 have e : b.length = (b.drop n).length + 1 + (n - 1) := by rw [List.length_drop]; omega
 rw [e, repL_enough]
def RepPost (w : World) (r : List Flds × Nat × Int) (e : Ending) (w' : World) : Prop :=
  ∃ lv, e = .returned (.tuple #[lv, .int .i64 (r.2.1 : Int), .int .i64 r.2.2]) ∧ Kd.R k44 44 w' w.heap.size (fun _ => True) lv (r.1.map repOf) ∧ Below w.heap.size w w'
structure RepSt (w2 wr : World) (lv : Value) (ms : List Flds) (at_ : Nat) (all : List Int) : Prop where
 below : Below w2.heap.size w2 wr
 row : Kd.R k44 44 wr w2.heap.size (fun _ => True) lv (ms.map repOf)
 le : at_ ≤ all.length
 count : ms.length ≤ at_
 eq : repS repTab all = (ms ++ (repS repTab (all.drop at_)).1, at_ + (repS repTab (all.drop at_)).2.1, (repS repTab (all.drop at_)).2.2)
theorem rep_end {w w2 wr W' : World} {lv : Value} {ms : List Flds} {at_ : Nat} {code : Int} {all : List Int} (h : RepSt w2 wr lv ms at_ all) (h2 : Below w.heap.size w w2) (hB : Below wr.heap.size wr W') (hr : repS repTab (all.drop at_) = ([], 0, code)) :
  RepPost w (repS repTab all) (.returned (.tuple #[lv, .int .i64 (at_ : Int), .int .i64 code])) W' := by
 rw [h.eq, hr]
 refine ⟨lv, by simp, ?_, h2.trans ((h.below.trans (hB.mono h.below.size)).mono h2.size)⟩
 rw [List.append_nil]
 exact Kd.R_lower (Kd.R_below h.row hB) h2.size
theorem info44 : (Try.prog.info? 44).map (fun i => (i.zero, i.size, i.bytes)) = some (some (.agg #[.int .i64 0, .int .i64 0, .int .i64 0, .slice none 0 0]), 4, 48) := by kernel_rfl
end Go.Proofs.Ytpflenaoplblkaa.ProS
end
section
namespace Go.Proofs.Ytpflenaoplblkaa.ProT
open Go.RowKit YtpflenaoplblkaaW.PrintWords YtpflenaoplblkaaW.PrintLast ProA ProB ProC ProI ProD ProE ProF ProG ProH ProJ ProK ProL ProM ProN ProO ProP ProQ ProR ProS
set_option linter.unusedVariables false
set_option linter.unusedSimpArgs false
def F5 : Flds := ⟨3, 0, 5, 0, ByteArray.empty, []⟩
theorem u8n : u8s [] := by intro x hx; cases hx
end Go.Proofs.Ytpflenaoplblkaa.ProT
end
section
namespace Go.Proofs.Ytpflenaoplblkaa.ProW
open Go.ChangeShapes Go.WideShapes Go.ChangeAt Go.RowKit YtpflenaoplblkaaW.PrintWords ProA ProB ProN
set_option linter.unusedVariables false
set_option linter.unusedSimpArgs false
theorem own : ownKnob Try.prog.godebug = none := by kernel_rfl
theorem laidOut : laidOutB Try.prog = true := by kernel_rfl
theorem one_le {H : Type} (d : DataW H) : 1 ≤ Rows.uptoBulk d := by
 cases d with
 | lit l => cases l <;> simp [Rows.uptoBulk]
 | nil => simp [Rows.uptoBulk]
 | ptr d => simp [Rows.uptoBulk]
 | slice elems spare => simp [Rows.uptoBulk]
 | agg parts => simp [Rows.uptoBulk]
 | iface t d => simp [Rows.uptoBulk]
 | map entries => simp [Rows.uptoBulk]
 | held h => simp [Rows.uptoBulk]
theorem part_le {H : Type} {d : DataW H} {l : List (DataW H)} (h : d ∈ l) : Rows.uptoBulk d ≤ Rows.uptoBulkAll l := by
 induction l with
 | nil => cases h
 | cons x r ih =>
  simp only [Rows.uptoBulkAll]
  cases List.mem_cons.1 h with
  | inl e => subst e; omega
  | inr e => have := ih e; omega
theorem length_le {H : Type} (l : List (DataW H)) : l.length ≤ Rows.uptoBulkAll l := by
 induction l with
 | nil => simp [Rows.uptoBulkAll]
 | cons x r ih => have := one_le x; simp only [Rows.uptoBulkAll, List.length_cons]; omega
theorem bound {H : Type} {l : List (DataW H)} (hk : Rows.uptoSmall H l = true) : Rows.uptoBulkAll l ≤ 1048576 := of_decide_eq_true hk
end Go.Proofs.Ytpflenaoplblkaa.ProW
end
section
namespace Go.Proofs.Ytpflenaoplblkaa.ProX
open Go.RowKit YtpflenaoplblkaaW.PrintWords YtpflenaoplblkaaW.PrintLast ProA ProB ProC ProI ProD ProE ProF ProG ProH ProJ ProK ProL ProM ProN ProO ProP ProQ ProR ProS ProT
set_option linter.unusedVariables false
set_option linter.unusedSimpArgs false
def PickPost (n : Int) (w : World) (e : Ending) (w' : World) : Prop := ∃ r : Int, e = .returned (.int .i64 r) ∧ 0 ≤ r ∧ r < n ∧ w = w'
theorem pick_ok (c n : Int) (w : World) (hc : -9223372036854775808 ≤ c ∧ c ≤ 9223372036854775807) (hn : 1 ≤ n) (hn2 : n ≤ 1000000000) :
  Calls Try.prog 11 #[.int .i64 c, .int .i64 n] w (PickPost n w) := by
 have hn0 : (n == 0) = false := by rw [beq_eq_false_iff_ne]; omega
 by_cases h : c < 0
 ·
  have d1 : decide (c < 0) = true := by simpa using h
  go_enter Try.func11, Try.ntmps11
  go_wp2_with fail
  go_ret
  refine ⟨_, rfl, ?_, ?_, rfl⟩
  all_goals rw [show -(c + 1).tmod n = (-(c + 1)) % n by rw [← Int.neg_tmod, Int.tmod_eq_emod_of_nonneg (by omega)]]
  · exact Int.emod_nonneg _ (by omega)
  · exact Int.emod_lt_of_pos _ (by omega)
 ·
  have d1 : decide (c < 0) = false := by simpa using h
  go_enter Try.func11, Try.ntmps11
  go_wp2_with fail
  go_ret
  refine ⟨_, rfl, ?_, ?_, rfl⟩
  · exact Int.emod_nonneg _ (by omega)
  · exact Int.emod_lt_of_pos _ (by omega)
set_option maxHeartbeats 2000000 in
set_option maxRecDepth 100000 in
theorem same_yes (M : S35) (A B : Option Addr) (n m c d : Nat) (w : World) (hA : BytesAt w A n M.f4) (hB : BytesAt w B m M.f4) :
  Calls Try.prog 14 #[.agg #[.int .i64 M.f0, .int .i64 M.f1, .string M.f2, .int .i64 M.f3, .slice A n c], .agg #[.int .i64 M.f0, .int .i64 M.f1, .string M.f2, .int .i64 M.f3, .slice B m d]] w fun e w' => e = .returned (.bool true) ∧ Below w.heap.size w w' := by
 have q1 : ∀ W : World, Below w.heap.size w W → (convert 22 9 (.slice A n c)).run Try.prog W = .ok (.string (strOfNums M.f4)) W := fun W h => Kd.C_string Try.underlying22 Try.underlying5 Try.underlying9 (BytesAt.below (B := 0) hA h)
 have q2 : ∀ W : World, Below w.heap.size w W → (convert 22 9 (.slice B m d)).run Try.prog W = .ok (.string (strOfNums M.f4)) W := fun W h => Kd.C_string Try.underlying22 Try.underlying5 Try.underlying9 (BytesAt.below (B := 0) hB h)
 have Q1 := Lib.hid q1
 have Q2 := Lib.hid q2
 clear q1 q2 hA hB
 go_enter Try.func14, Try.ntmps14
 have q1 := Q1.out ((w.alloc (Obj.cells #[.int .i64 M.f0, .int .i64 M.f1, .string M.f2, .int .i64 M.f3, .slice A n c] 35)).alloc (Obj.cells #[.int .i64 M.f0, .int .i64 M.f1, .string M.f2, .int .i64 M.f3, .slice B m d] 35)) (by go_grown)
 have q2 := Q2.out ((w.alloc (Obj.cells #[.int .i64 M.f0, .int .i64 M.f1, .string M.f2, .int .i64 M.f3, .slice A n c] 35)).alloc (Obj.cells #[.int .i64 M.f0, .int .i64 M.f1, .string M.f2, .int .i64 M.f3, .slice B m d] 35)) (by go_grown)
 go_wp2_with fail
 go_ret
 exact ⟨by simp, by go_grown⟩
end Go.Proofs.Ytpflenaoplblkaa.ProX
end
section
namespace Go.Proofs.Ytpflenaoplblkaa.ProU
open Go.RowKit YtpflenaoplblkaaW.PrintWords ProO ProR ProA ProB ProC ProI ProG ProH ProJ ProL ProN ProP ProQ ProS
set_option linter.unusedVariables false
set_option linter.unusedSimpArgs false
theorem be_foldl (xs : List Int) : ∀ a : Int, xs.foldl (fun n b => n * 256 + b) a = a * 256 ^ xs.length + be xs := by
 induction xs with
 | nil => intro a; simp [be]
 | cons x l ih =>
  intro a
  simp only [be, List.foldl_cons, List.length_cons]
  rw [ih, ih, Int.pow_succ]
  generalize (256 : Int) ^ l.length = p
  generalize be l = q
  rw [Int.add_mul, Int.mul_assoc, Int.mul_comm 256 p]
  simp
  omega
theorem be_cons (x : Int) (l : List Int) : be (x :: l) = x * 256 ^ l.length + be l := by
 have := be_foldl l x
 simpa [be] using this
theorem beB_mod (n a : Int) (k : Nat) : ∀ j, j ≤ k → beB (n + a * 256 ^ k) j = beB n j := by
 intro j
 induction j with
 | zero => intro _; rfl
 | succ j ih =>
  intro h
  simp only [beB]
  rw [ih (by omega)]
  congr 1
  have e : (256 : Int) ^ k = 256 ^ (k - j - 1) * 256 * 256 ^ j := by
   rw [← Int.pow_succ, ← Int.pow_add]
   congr 1
   omega
  have hp : (256 : Int) ^ j ≠ 0 := Int.ne_of_gt (Int.pow_pos (by decide))
  rw [e, ← Int.mul_assoc, Int.add_mul_ediv_right _ _ hp, ← Int.mul_assoc, Int.add_mul_emod_self_right]
theorem str_size (xs : List Int) : (strOfNums xs).size = xs.length := by
 rw [← bytesOf_length]
 unfold bytesOf strOfNums
 simp
def fdOf : PS → Nat
 | .num .tn _ _ _ => 0
 | .num .n _ _ _ => 1
 | .num .m _ _ _ => 2
 | .name => 3
 | .blob _ => 4
def SameF : Nat → Flds → Flds → Prop
 | 0, F, G => F.tn = G.tn
 | 1, F, G => F.n = G.n
 | 2, F, G => F.m = G.m
 | 3, F, G => F.name = G.name
 | _, F, G => F.data = G.data
theorem SameF.refl (f : Nat) (F : Flds) : SameF f F F := by unfold SameF; split <;> rfl
theorem SameF.trans {f : Nat} {F G H : Flds} (h : SameF f F G) (k : SameF f G H) : SameF f F H := by
 match f, h, k with
 | 0, h, k => exact Eq.trans h k
 | 1, h, k => exact Eq.trans h k
 | 2, h, k => exact Eq.trans h k
 | 3, h, k => exact Eq.trans h k
 | n + 4, h, k => exact Eq.trans h k
theorem rd_other {p : PS} {xs : List Int} {F F' : Flds} {k : Nat} (h : rdS p xs F = some (F', k)) (f : Nat) (hf : f ≠ fdOf p) (hl : f ≤ 4) : SameF f F' F ∧ F'.kind = F.kind := by
 cases p with
 | num o w lo hi =>
  simp only [rdS] at h
  split at h
  ·
   simp only [Option.some.injEq, Prod.mk.injEq] at h
   obtain ⟨rfl, _⟩ := h
   have hf4 : f = 0 ∨ f = 1 ∨ f = 2 ∨ f = 3 ∨ f = 4 := by omega
   cases o <;> rcases hf4 with rfl | rfl | rfl | rfl | rfl <;> simp_all [fdOf, SameF, Fput]
  · cases h
 | name =>
  simp only [rdS] at h
  split at h
  ·
   simp only [Option.some.injEq, Prod.mk.injEq] at h
   obtain ⟨rfl, _⟩ := h
   have hf4 : f = 0 ∨ f = 1 ∨ f = 2 ∨ f = 3 ∨ f = 4 := by omega
   rcases hf4 with rfl | rfl | rfl | rfl | rfl <;> simp_all [fdOf, SameF]
  · cases h
 | blob hi =>
  simp only [rdS] at h
  split at h
  ·
   simp only [Option.some.injEq, Prod.mk.injEq] at h
   obtain ⟨rfl, _⟩ := h
   have hf4 : f = 0 ∨ f = 1 ∨ f = 2 ∨ f = 3 ∨ f = 4 := by omega
   rcases hf4 with rfl | rfl | rfl | rfl | rfl <;> simp_all [fdOf, SameF]
  · cases h
theorem fits_same {p : PS} {F G : Flds} (h : SameF (fdOf p) F G) : fitsS p F = fitsS p G := by
 cases p with
 | num o w lo hi =>
  have : Fget F o = Fget G o := by cases o <;> exact h
  simp only [fitsS]
  rw [this]
 | name =>
  have : F.name = G.name := h
  simp only [fitsS]
  rw [this]
 | blob hi =>
  have : F.data = G.data := h
  simp only [fitsS]
  rw [this]
theorem dec_other {ps : List PS} : ∀ {xs : List Int} {F0 F : Flds}, decParts ps xs F0 = .ok F → F.kind = F0.kind ∧ ∀ f, f ≤ 4 → f ∉ ps.map fdOf → SameF f F F0 := by
 induction ps with
 | nil =>
  intro xs F0 F h
  simp only [decParts] at h
  split at h
  ·
   injection h with h
   subst h
   exact ⟨rfl, fun f _ _ => SameF.refl f _⟩
  · cases h
 | cons p ps ih =>
  intro xs F0 F h
  simp only [decParts] at h
  cases hr : rdS p xs F0 with
  | none => rw [hr] at h; cases h
  | some r =>
   obtain ⟨F', k⟩ := r
   rw [hr] at h
   simp only at h
   split at h
   ·
    obtain ⟨h1, h2⟩ := ih h
    refine ⟨h1.trans (rd_other hr (if fdOf p = 0 then 1 else 0) (by split <;> omega) (by split <;> omega)).2, fun f hl hf => ?_⟩
    simp only [List.map_cons, List.mem_cons, not_or] at hf
    exact (h2 f hl hf.2).trans (rd_other hr f hf.1 hl).1
   · cases h
theorem cl_other (p : PS) (F : Flds) (f : Nat) (hl : f ≤ 4) (hf : f ≠ fdOf p) : SameF f (clS p F) F := by
 have hf4 : f = 0 ∨ f = 1 ∨ f = 2 ∨ f = 3 ∨ f = 4 := by omega
 cases p with
 | num o _ _ _ => cases o <;> rcases hf4 with rfl | rfl | rfl | rfl | rfl <;> first | rfl | exact absurd rfl hf
 | name => rcases hf4 with rfl | rfl | rfl | rfl | rfl <;> first | rfl | exact absurd rfl hf
 | blob _ => rcases hf4 with rfl | rfl | rfl | rfl | rfl <;> first | rfl | exact absurd rfl hf
def TabNod (tab : List (List PS)) : Prop := ∀ ps ∈ tab, (ps.map fdOf).Nodup
theorem msgTab_nod : TabNod msgTab := by
 intro ps hps
 simp only [msgTab, List.mem_cons, List.not_mem_nil, or_false] at hps
 rcases hps with rfl | rfl | rfl | rfl | rfl | rfl | rfl | rfl <;> decide
theorem repTab_nod : TabNod repTab := by
 intro ps hps
 simp only [repTab, List.mem_cons, List.not_mem_nil, or_false] at hps
 rcases hps with rfl | rfl | rfl | rfl | rfl | rfl | rfl | rfl | rfl | rfl <;> decide
end Go.Proofs.Ytpflenaoplblkaa.ProU
end
section
namespace Go.Proofs.Ytpflenaoplblkaa.ProV
open Go.RowKit YtpflenaoplblkaaW.PrintWords YtpflenaoplblkaaW.PrintLast ProA ProB ProC ProI ProD ProE ProF ProG ProH ProJ ProK ProL ProM ProN ProO ProP ProQ ProR ProS ProT ProU
set_option linter.unusedVariables false
set_option linter.unusedSimpArgs false
theorem clAll_same (ps : List PS) : ∀ (F : Flds) (f : Nat), f ≤ 4 → f ∉ ps.map fdOf → SameF f (clAll ps F) F := by
 induction ps with
 | nil => intro F f _ _; exact SameF.refl f F
 | cons p ps ih =>
  intro F f hl h
  rw [List.map_cons, List.mem_cons, not_or] at h
  show SameF f (clAll ps (clS p F)) F
  exact (ih (clS p F) f hl h.2).trans (cl_other p F f hl h.1)
theorem conv_str {w : World} {A : Option Addr} {n c : Nat} {xs : List Int} (h : BytesAt w A n xs) : (convert 22 9 (.slice A n c)).run Try.prog w = .ok (.string (strOfNums xs)) w := Kd.C_string Try.underlying22 Try.underlying5 Try.underlying9 h
end Go.Proofs.Ytpflenaoplblkaa.ProV
end
section
namespace Go.Proofs.Ytpflenaoplblkaa.ProZ
open Go.RowKit YtpflenaoplblkaaW.PrintWords ProO ProR ProA ProB ProC ProI ProG ProH ProJ ProL ProN ProP ProQ ProS ProU ProV ProX
set_option linter.unusedVariables false
set_option linter.unusedSimpArgs false
theorem beB_u8 (x : Int) (k : Nat) : u8s (beB x k) := by
 induction k with
 | zero => intro y hy; cases hy
 | succ k ih =>
  intro y hy
  simp only [beB, List.mem_cons] at hy
  rcases hy with rfl | hy
  · exact ⟨Int.emod_nonneg _ (by decide), Int.emod_lt_of_pos _ (by decide)⟩
  · exact ih y hy
theorem be_beB (k : Nat) : ∀ x : Int, 0 ≤ x → x < 256 ^ k → be (beB x k) = x := by
 induction k with
 | zero => intro x h0 h1; simp at h1; simp [beB, be]; omega
 | succ k ih =>
  intro x h0 h1
  have hp : (0 : Int) < 256 ^ k := Int.pow_pos (by decide)
  have hdm := Int.emod_add_mul_ediv x (256 ^ k)
  have h2 : beB x k = beB (x % 256 ^ k) k := by
   conv => lhs; rw [← hdm, Int.mul_comm]
   exact beB_mod _ _ k k (Nat.le_refl _)
  rw [beB, be_cons, beB_len, h2, ih _ (Int.emod_nonneg _ (by omega)) (Int.emod_lt_of_pos _ hp)]
  have h3 : x / 256 ^ k < 256 := Int.ediv_lt_of_lt_mul hp (by rw [Int.mul_comm, ← Int.pow_succ]; exact h1)
  have h4 : 0 ≤ x / 256 ^ k := Int.ediv_nonneg h0 (by omega)
  rw [Int.emod_eq_of_lt h4 h3, Int.mul_comm]
  omega
theorem str_bytes (s : ByteArray) : strOfNums (bytesOf s) = s := by
 unfold strOfNums bytesOf
 have : (s.data.toList.map fun b => (b.toNat : Int)).map (fun n => UInt8.ofNat n.toNat) = s.data.toList := by
  rw [List.map_map]
  conv => rhs; rw [← List.map_id s.data.toList]
  refine List.map_congr_left fun b _ => ?_
  simp
 rw [this]
theorem bytes_u8 (s : ByteArray) : u8s (bytesOf s) := by
 intro x hx
 unfold bytesOf at hx
 obtain ⟨b, _, rfl⟩ := List.mem_map.1 hx
 have := b.toNat_lt
 omega
theorem SameF.symm {f : Nat} {F G : Flds} (h : SameF f F G) : SameF f G F := by
 match f, h with
 | 0, h => exact Eq.symm h
 | 1, h => exact Eq.symm h
 | 2, h => exact Eq.symm h
 | 3, h => exact Eq.symm h
 | n + 4, h => exact Eq.symm h
def pgood : PS → Prop
 | .num _ k lo hi => 0 ≤ lo ∧ hi < 256 ^ k
 | .name => True
 | .blob hi => hi < 256 ^ 4
theorem wr_rd {p : PS} {F : Flds} (b : List Int) (F0 : Flds) (hg : pgood p) (hf : fitsS p F = true) : ∃ F', rdS p (wrS p F ++ b) F0 = some (F', (wrS p F).length) ∧ SameF (fdOf p) F' F := by
 cases p with
 | num o k lo hi =>
  simp only [fitsS, Bool.and_eq_true, decide_eq_true_eq] at hf
  obtain ⟨g1, g2⟩ := hg
  have hl : (beB (Fget F o) k).length = k := beB_len _ _
  have hw : (wrS (.num o k lo hi) F).length = k := by simp only [wrS]; exact hl
  have h1 : (wrS (.num o k lo hi) F ++ b).take k = beB (Fget F o) k := by
   simp only [wrS]
   exact List.take_left' hl
  rw [hw]
  simp only [rdS]
  rw [if_pos (by rw [List.length_append, hw]; omega), h1, be_beB k _ (by omega) (by omega)]
  refine ⟨_, rfl, ?_⟩
  cases o <;> rfl
 | name =>
  simp only [fitsS, nameOk, Bool.and_eq_true, decide_eq_true_eq] at hf
  have hl : (beB (F.name.size : Int) 1).length = 1 := beB_len _ _
  have h1 : (wrS .name F ++ b).take 1 = beB (F.name.size : Int) 1 := by
   simp only [wrS]
   rw [List.append_assoc, List.take_left' hl]
  have h2 : len1 (wrS .name F ++ b) 1 = F.name.size := by
   unfold len1
   rw [h1, be_beB 1 _ (by omega) (by omega)]
   simp
  have hw : (wrS .name F).length = 1 + F.name.size := by simp only [wrS]; rw [List.length_append, hl, bytesOf_length]
  have h3 : ((wrS .name F ++ b).drop 1).take F.name.size = bytesOf F.name := by
   simp only [wrS]
   rw [List.append_assoc, List.drop_left' hl, List.take_left' (bytesOf_length _)]
  rw [hw]
  simp only [rdS]
  rw [h2, if_pos (by rw [List.length_append, hw]; omega), h3, str_bytes]
  exact ⟨_, rfl, rfl⟩
 | blob hi =>
  simp only [fitsS, decide_eq_true_eq] at hf
  have hg' : hi < 256 ^ 4 := hg
  have hl : (beB (F.data.length : Int) 4).length = 4 := beB_len _ _
  have h1 : (wrS (.blob hi) F ++ b).take 4 = beB (F.data.length : Int) 4 := by
   simp only [wrS]
   rw [List.append_assoc, List.take_left' hl]
  have h2 : len1 (wrS (.blob hi) F ++ b) 4 = F.data.length := by
   unfold len1
   rw [h1, be_beB 4 _ (by omega) (by omega)]
   simp
  have hw : (wrS (.blob hi) F).length = 4 + F.data.length := by simp only [wrS]; rw [List.length_append, hl]
  have h3 : ((wrS (.blob hi) F ++ b).drop 4).take F.data.length = F.data := by
   simp only [wrS]
   rw [List.append_assoc, List.drop_left' hl, List.take_left]
  rw [hw]
  simp only [rdS]
  rw [h2, if_pos (by rw [List.length_append, hw]; omega), h3]
  exact ⟨_, rfl, rfl⟩
theorem enc_dec {ps : List PS} : ∀ {F F0 : Flds} {body : List Int}, encParts ps F = some body → (∀ p ∈ ps, pgood p) → (ps.map fdOf).Nodup →
  ∃ G, decParts ps body F0 = .ok G ∧ G.kind = F0.kind ∧ (∀ f ∈ ps.map fdOf, SameF f G F) ∧ ∀ f, f ≤ 4 → f ∉ ps.map fdOf → SameF f G F0 := by
 induction ps with
 | nil =>
  intro F F0 body h _ _
  simp only [encParts, Option.some.injEq] at h
  subst h
  exact ⟨F0, by simp [decParts], rfl, by simp, fun f _ _ => SameF.refl f F0⟩
 | cons p ps ih =>
  intro F F0 body h hg hn
  simp only [encParts] at h
  split at h
  ·
   rename_i hfit
   rw [Option.map_eq_some_iff] at h
   obtain ⟨b2, h2, rfl⟩ := h
   rw [List.map_cons, List.nodup_cons] at hn
   obtain ⟨F', hr, hs⟩ := wr_rd b2 F0 (hg p (by simp)) hfit
   obtain ⟨G, i1, i2, i3, i4⟩ := ih (F0 := F') h2 (fun q hq => hg q (by simp [hq])) hn.2
   have hfd : fdOf p ≤ 4 := by cases p with | num o _ _ _ => cases o <;> simp [fdOf] | name => simp [fdOf] | blob _ => simp [fdOf]
   have hk : F'.kind = F0.kind := (rd_other hr (if fdOf p = 0 then 1 else 0) (by split <;> omega) (by split <;> omega)).2
   refine ⟨G, ?_, i2.trans hk, ?_, ?_⟩
   ·
    simp only [decParts]
    rw [hr]
    simp only
    rw [if_pos (by rw [fits_same hs]; exact hfit), List.drop_left' rfl]
    exact i1
   ·
    intro f hf
    rw [List.map_cons, List.mem_cons] at hf
    rcases hf with rfl | hf
    · exact (i4 _ hfd hn.1).trans hs
    · exact i3 f hf
   ·
    intro f hl hf
    rw [List.map_cons, List.mem_cons, not_or] at hf
    exact (i4 f hl hf.2).trans (rd_other hr f hf.1 hl).1
  · cases h
def plen : PS → Nat
 | .num _ k _ _ => k
 | .name => 17
 | .blob hi => 4 + hi.toNat
theorem wr_len {p : PS} {F : Flds} (hf : fitsS p F = true) : (wrS p F).length ≤ plen p := by
 cases p with
 | num o k lo hi => simp [wrS, plen, beB_len]
 | name =>
  simp only [fitsS, nameOk, Bool.and_eq_true, decide_eq_true_eq] at hf
  simp only [wrS, plen, List.length_append, beB_len, bytesOf_length]
  omega
 | blob hi =>
  simp only [fitsS, decide_eq_true_eq] at hf
  simp only [wrS, plen, List.length_append, beB_len]
  omega
theorem enc_len {ps : List PS} : ∀ {F : Flds} {body : List Int}, encParts ps F = some body → body.length ≤ (ps.map plen).sum := by
 induction ps with
 | nil => intro F body h; simp only [encParts, Option.some.injEq] at h; subst h; simp
 | cons p ps ih =>
  intro F body h
  simp only [encParts] at h
  split at h
  ·
   rename_i hfit
   rw [Option.map_eq_some_iff] at h
   obtain ⟨b2, h2, rfl⟩ := h
   have := ih h2
   have := wr_len hfit
   rw [List.map_cons, List.sum_cons, List.length_append]
   omega
  · cases h
structure TabBack (tab : List (List PS)) : Prop where
 good : ∀ ps ∈ tab, ∀ p ∈ ps, pgood p
 nod : TabNod tab
 len : ∀ ps ∈ tab, (ps.map plen).sum ≤ 262399
 most : tab.length ≤ 256
theorem flds_ext {F G : Flds} (hk : F.kind = G.kind) (h : ∀ f, f ≤ 4 → SameF f F G) : F = G := by
 have h0 : F.tn = G.tn := h 0 (by omega)
 have h1 : F.n = G.n := h 1 (by omega)
 have h2 : F.m = G.m := h 2 (by omega)
 have h3 : F.name = G.name := h 3 (by omega)
 have h4 : F.data = G.data := h 4 (by omega)
 cases F
 cases G
 simp_all
theorem empty_zero {F : Flds} (h : emptyB F F.data.length = true) (f : Nat) (hl : f ≤ 4) : SameF f F (fd0 0) := by
 simp only [emptyB, Bool.and_eq_true, decide_eq_true_eq] at h
 obtain ⟨⟨⟨⟨h0, h1⟩, h2⟩, h3⟩, h4⟩ := h
 have hf4 : f = 0 ∨ f = 1 ∨ f = 2 ∨ f = 3 ∨ f = 4 := by omega
 rcases hf4 with rfl | rfl | rfl | rfl | rfl
 · exact h0
 · exact h1
 · exact h2
 ·
  show F.name = ByteArray.empty
  have h5 : F.name.toList = [] := List.isEmpty_iff.1 h3
  rw [Lib.toList_data] at h5
  have : F.name = ⟨F.name.data⟩ := rfl
  rw [this]
  have h6 : F.name.data = #[] := by simpa using h5
  rw [h6]
  rfl
 · exact List.eq_nil_of_length_eq_zero h4
theorem enc_cut {tab : List (List PS)} {F : Flds} {bs : List Int} (h : encS tab F = .ok bs) (ht : TabBack tab) (c : List Int) : cutS tab (bs ++ c) = .ok (some (F, bs.length)) := by
 unfold encS at h
 by_cases hk : F.kind < 1 ∨ (tab.length : Int) ≤ F.kind
 · rw [if_pos hk] at h; cases h
 rw [if_neg hk] at h
 cases hps : tab[F.kind.toNat]? with
 | none => rw [hps] at h; cases h
 | some ps =>
  rw [hps] at h
  simp only at h
  have hmem := List.mem_of_getElem? hps
  cases hb : encParts ps F with
  | none => rw [hb] at h; cases h
  | some body =>
   rw [hb] at h
   simp only at h
   by_cases he : emptyB (clAll ps F) (clAll ps F).data.length = true
   ·
    rw [if_pos he] at h
    injection h with h
    have hlen := enc_len hb
    have hl2 := ht.len ps hmem
    obtain ⟨G, d1, d2, d3, d4⟩ := enc_dec (F0 := fd0 F.kind) hb (ht.good ps hmem) (ht.nod ps hmem)
    have hGF : G = F := flds_ext d2 (fun f hl => by
     by_cases hm : f ∈ ps.map fdOf
     · exact d3 f hm
     ·
      have hz := empty_zero he f hl
      have hs := clAll_same ps F f hl hm
      refine (d4 f hl hm).trans ?_
      have h5 : SameF f (fd0 F.kind) (fd0 0) := by
       have hf4 : f = 0 ∨ f = 1 ∨ f = 2 ∨ f = 3 ∨ f = 4 := by omega
       rcases hf4 with rfl | rfl | rfl | rfl | rfl <;> rfl
      exact (h5.trans (SameF.symm hz)).trans hs)
    subst hGF
    generalize hN : (G.kind :: body).length = N at h
    have hN1 : N = body.length + 1 := by rw [← hN]; simp
    have hl4 : (beB (N : Int) 4).length = 4 := beB_len _ _
    have hbs : bs.length = 4 + N := by rw [← h, List.length_append, hl4, hN]
    have ht4 : (bs ++ c).take 4 = beB (N : Int) 4 := by rw [← h, List.append_assoc, List.take_left' hl4]
    have hbe : be ((bs ++ c).take 4) = (N : Int) := by rw [ht4]; exact be_beB 4 _ (by omega) (by omega)
    have hl1 : len1 (bs ++ c) 4 = N := by unfold len1; rw [hbe]; simp
    have hdr : ((bs ++ c).drop 4).take N = G.kind :: body := by rw [← h, List.append_assoc, List.drop_left' hl4, List.take_left' hN]
    unfold cutS
    rw [if_neg (by rw [List.length_append]; omega), hbe, if_neg (by omega), hl1, if_neg (by rw [List.length_append]; omega), hdr, hbs]
    have hdec : decS tab (G.kind :: body) = .ok G := by
     unfold decS
     have hb1 : be ((G.kind :: body).take 1) = G.kind := by simp [be]
     rw [if_neg (by simp), hb1, hps]
     simp only
     rw [if_neg (by omega)]
     exact d1
    rw [hdec]
   · rw [if_neg he] at h; cases h
theorem msgTab_back : TabBack msgTab := by
 refine ⟨?_, msgTab_nod, ?_, by decide⟩
 ·
  intro ps hps p hp
  simp only [msgTab, List.mem_cons, List.not_mem_nil, or_false] at hps
  rcases hps with rfl | rfl | rfl | rfl | rfl | rfl | rfl | rfl <;> simp only [List.mem_cons, List.not_mem_nil, or_false] at hp <;> (try rcases hp with rfl | rfl | rfl) <;> (try subst hp) <;> first | trivial | (simp [pgood]; done) | (exact hp.elim)
 ·
  intro ps hps
  simp only [msgTab, List.mem_cons, List.not_mem_nil, or_false] at hps
  rcases hps with rfl | rfl | rfl | rfl | rfl | rfl | rfl | rfl <;> simp [plen]
def kAt {α : Type} (d : Kd α) (w0 : World) : Kd α where
 sz := d.sz
 E := []
 K := fun _ => d.K w0
 M := fun _ _ _ => d.K w0
 K_len := fun h => d.K_len h
 K_one := fun h => d.K_one h
 K_below := fun _ h => h
 K_of_M := fun h => h
 M_mono := fun _ h => h
 M_bound := fun h => h
 M_move := fun _ h => h
 M_lower := fun _ h => h
end Go.Proofs.Ytpflenaoplblkaa.ProZ
end
section
namespace Go.Proofs.Ytpflenaoplblkaa.ProBa
open Go.RowKit YtpflenaoplblkaaW.PrintWords YtpflenaoplblkaaW.PrintLast ProA ProB ProC ProI ProD ProE ProF ProG ProH ProJ ProK ProL ProM ProN ProO ProP ProQ ProR ProS ProT ProU ProV ProX ProZ
set_option linter.unusedVariables false
set_option linter.unusedSimpArgs false
theorem u8_app {xs ys : List Int} (h : u8s xs) (k : u8s ys) : u8s (xs ++ ys) := fun x hx => by
 rcases List.mem_append.1 hx with hx | hx
 · exact h x hx
 · exact k x hx
theorem wr_u8 (p : PS) (F : Flds) (h : u8s F.data) : u8s (wrS p F) := by
 cases p with
 | num o k _ _ => exact beB_u8 _ _
 | name => exact u8_app (beB_u8 _ _) (bytes_u8 _)
 | blob _ => exact u8_app (beB_u8 _ _) h
theorem encParts_u8 {ps : List PS} : ∀ {F : Flds} {body : List Int}, encParts ps F = some body → (∀ p ∈ ps, psmall p) → u8s F.data → u8s body ∧ body.length ≤ ps.length * (F.data.length + 21) := by
 induction ps with
 | nil => intro F body h _ _; simp only [encParts, Option.some.injEq] at h; subst h; exact ⟨u8n, by simp⟩
 | cons p ps ih =>
  intro F body h hsm hu
  simp only [encParts] at h
  split at h
  ·
   rename_i hfit
   rw [Option.map_eq_some_iff] at h
   obtain ⟨b2, h2, rfl⟩ := h
   obtain ⟨i1, i2⟩ := ih h2 (fun q hq => hsm q (by simp [hq])) hu
   refine ⟨u8_app (wr_u8 p F hu) i1, ?_⟩
   have h3 := wrS_len p F _ rfl (hsm p (by simp)) hfit
   rw [List.length_append, List.length_cons, Nat.succ_mul, Nat.add_comm]
   exact Nat.add_le_add i2 h3
  · cases h
theorem enc_facts {tab : List (List PS)} {F : Flds} {bs : List Int} (h : encS tab F = .ok bs) (ht : TabOk tab) (h3 : ∀ ps ∈ tab, ps.length ≤ 3) (h256 : tab.length ≤ 256) (hu : u8s F.data) : u8s bs ∧ bs.length ≤ 3 * F.data.length + 68 := by
 unfold encS at h
 by_cases hk : F.kind < 1 ∨ (tab.length : Int) ≤ F.kind
 · rw [if_pos hk] at h; cases h
 rw [if_neg hk] at h
 cases hps : tab[F.kind.toNat]? with
 | none => rw [hps] at h; cases h
 | some ps =>
  rw [hps] at h
  simp only at h
  have hmem := List.mem_of_getElem? hps
  cases hb : encParts ps F with
  | none => rw [hb] at h; cases h
  | some body =>
   rw [hb] at h
   simp only at h
   split at h
   ·
    injection h with h
    obtain ⟨e1, e2⟩ := encParts_u8 hb (ht.small ps hmem) hu
    have hp3 : ps.length * (F.data.length + 21) ≤ 3 * (F.data.length + 21) := Nat.mul_le_mul_right _ (h3 ps hmem)
    subst h
    refine ⟨u8_app (beB_u8 _ _) (fun x hx => ?_), ?_⟩
    ·
     rcases List.mem_cons.1 hx with rfl | hx
     · omega
     · exact e1 x hx
    ·
     rw [List.length_append, beB_len, List.length_cons]
     omega
   · cases h
theorem msg3 : ∀ ps ∈ msgTab, ps.length ≤ 3 := by simp [msgTab]
theorem rep3 : ∀ ps ∈ repTab, ps.length ≤ 3 := by simp [repTab]
theorem enc_err_code {tab : List (List PS)} {F : Flds} {q : Int} (h : encS tab F = .error q) : q = 122 ∨ q = 123 := by
 unfold encS at h
 split at h
 · injection h with h; exact .inl h.symm
 split at h
 · injection h with h; exact .inl h.symm
 ·
  split at h
  · injection h with h; exact .inr h.symm
  ·
   split at h
   · cases h
   · injection h with h; exact .inr h.symm
end Go.Proofs.Ytpflenaoplblkaa.ProBa
end
section
namespace Go.Proofs.Ytpflenaoplblkaa.ProBb
open Go.RowKit YtpflenaoplblkaaW.PrintWords YtpflenaoplblkaaW.PrintLast ProA ProB ProC ProI ProD ProE ProF ProG ProH ProJ ProK ProL ProM ProN ProO ProP ProQ ProR ProS ProT ProU ProV ProX ProZ ProBa
set_option linter.unusedVariables false
set_option linter.unusedSimpArgs false
def tot (l : List S35) : Nat := (l.map (fun M => 3 * M.f4.length + 68)).sum
theorem c_nil {α : Type} (d : Kd α) (w : World) (A : Option Addr) : d.C w A 0 ([] : List α) := ⟨rfl, by omega, fun h => absurd h (Nat.lt_irrefl 0)⟩
structure BackSt (w w1 wr : World) (xs : List S35) (j : Nat) (av wv : Value) (sel : List S35) (bss : List (List Int)) : Prop where
 below : Below w1.heap.size w1 wr
 all : Own wr w1.heap.size (fun _ => True) av bss.flatten
 want : Kd.R (kAt k35 w) 35 wr w1.heap.size (fun _ => True) wv sel
 enc : sel.map (fun M => encS msgTab (fldM M)) = bss.map .ok
 u8 : u8s bss.flatten
 len : bss.flatten.length ≤ tot (xs.take j)
 cnt : sel.length ≤ j
end Go.Proofs.Ytpflenaoplblkaa.ProBb
end
section
namespace Go.Proofs.Ytpflenaoplblkaa.ProCa
open Go.RowKit YtpflenaoplblkaaW.PrintWords YtpflenaoplblkaaW.PrintLast ProA ProB ProC ProI ProD ProE ProF ProG ProH ProJ ProK ProL ProM ProN ProO ProP ProQ ProR ProS ProT ProU ProV ProX ProZ ProBa
set_option linter.unusedVariables false
set_option linter.unusedSimpArgs false
set_option maxHeartbeats 2000000 in
set_option maxRecDepth 100000 in
theorem sameReply_yes (M : S44) (A B : Option Addr) (n m c d : Nat) (w : World) (hA : BytesAt w A n M.f3) (hB : BytesAt w B m M.f3) :
  Calls Try.prog 18 #[.agg #[.int .i64 M.f0, .int .i64 M.f1, .int .i64 M.f2, .slice A n c], .agg #[.int .i64 M.f0, .int .i64 M.f1, .int .i64 M.f2, .slice B m d]] w fun e w' => e = .returned (.bool true) ∧ Below w.heap.size w w' := by
 have q1 : ∀ W : World, Below w.heap.size w W → (convert 22 9 (.slice A n c)).run Try.prog W = .ok (.string (strOfNums M.f3)) W := fun W h => Kd.C_string Try.underlying22 Try.underlying5 Try.underlying9 (BytesAt.below (B := 0) hA h)
 have q2 : ∀ W : World, Below w.heap.size w W → (convert 22 9 (.slice B m d)).run Try.prog W = .ok (.string (strOfNums M.f3)) W := fun W h => Kd.C_string Try.underlying22 Try.underlying5 Try.underlying9 (BytesAt.below (B := 0) hB h)
 have Q1 := Lib.hid q1
 have Q2 := Lib.hid q2
 clear q1 q2 hA hB
 go_enter Try.func18, Try.ntmps18
 have q1 := Q1.out ((w.alloc (Obj.cells #[.int .i64 M.f0, .int .i64 M.f1, .int .i64 M.f2, .slice A n c] 44)).alloc (Obj.cells #[.int .i64 M.f0, .int .i64 M.f1, .int .i64 M.f2, .slice B m d] 44)) (by go_grown)
 have q2 := Q2.out ((w.alloc (Obj.cells #[.int .i64 M.f0, .int .i64 M.f1, .int .i64 M.f2, .slice A n c] 44)).alloc (Obj.cells #[.int .i64 M.f0, .int .i64 M.f1, .int .i64 M.f2, .slice B m d] 44)) (by go_grown)
 go_wp2_with fail
 go_ret
 exact ⟨by simp, by go_grown⟩
end Go.Proofs.Ytpflenaoplblkaa.ProCa
end
section
namespace Go.Proofs.YtpflenaoplblkaaW.PrintWords
theorem Reps.one {α : Type} {R : α → List Value → Prop} {ps : List α} {cs : List Value} {p : α} {v : Value} (hp : R p [v]) (h : Reps R 1 ps cs) : Reps R 1 (p :: ps) (v :: cs) := by
 refine ⟨by simp [h.1], fun j q hq => ?_⟩
 cases j with
 | zero =>
  simp only [List.getElem?_cons_zero, Option.some.injEq] at hq
  subst hq
  simpa using hp
 | succ j =>
  simp only [List.getElem?_cons_succ] at hq
  have h1 := h.2 j q hq
  simpa [Nat.mul_one] using h1
theorem Reps.front {α : Type} {R : α → List Value → Prop} {size : Nat} {ps : List α} {cs c all : List Value} {p : α} (hp : R p c) (hc : c.length = size) (h : Reps R size ps cs) (ha : c ++ cs = all) : Reps R size (p :: ps) all := by
 subst ha
 refine ⟨by rw [List.length_append, hc, h.1, List.length_cons, Nat.succ_mul, Nat.add_comm], fun j q hq => ?_⟩
 cases j with
 | zero =>
  simp only [List.getElem?_cons_zero, Option.some.injEq] at hq
  subst hq
  rw [Nat.zero_mul, List.drop_zero, List.take_append_of_le_length (by omega), List.take_of_length_le (by omega)]
  exact hp
 | succ j =>
  simp only [List.getElem?_cons_succ] at hq
  have h1 := h.2 j q hq
  rw [Nat.succ_mul, List.drop_append, List.drop_of_length_le (by rw [hc]; exact Nat.le_add_left _ _), List.nil_append, hc, Nat.add_sub_cancel]
  exact h1
theorem Reps.c2 {α : Type} {R : α → List Value → Prop} {ps : List α} {cs : List Value} {p : α} {va vb : Value} (hp : R p [va, vb]) (h : Reps R 2 ps cs) : Reps R 2 (p :: ps) (va :: vb :: cs) := Reps.front hp rfl h rfl
theorem Reps.c3 {α : Type} {R : α → List Value → Prop} {ps : List α} {cs : List Value} {p : α} {va vb vc : Value} (hp : R p [va, vb, vc]) (h : Reps R 3 ps cs) : Reps R 3 (p :: ps) (va :: vb :: vc :: cs) := Reps.front hp rfl h rfl
theorem Reps.c4 {α : Type} {R : α → List Value → Prop} {ps : List α} {cs : List Value} {p : α} {va vb vc vd : Value} (hp : R p [va, vb, vc, vd]) (h : Reps R 4 ps cs) : Reps R 4 (p :: ps) (va :: vb :: vc :: vd :: cs) := Reps.front hp rfl h rfl
theorem Reps.c5 {α : Type} {R : α → List Value → Prop} {ps : List α} {cs : List Value} {p : α} {va vb vc vd ve : Value} (hp : R p [va, vb, vc, vd, ve]) (h : Reps R 5 ps cs) : Reps R 5 (p :: ps) (va :: vb :: vc :: vd :: ve :: cs) := Reps.front hp rfl h rfl
theorem Reps.c6 {α : Type} {R : α → List Value → Prop} {ps : List α} {cs : List Value} {p : α} {va vb vc vd ve vf : Value} (hp : R p [va, vb, vc, vd, ve, vf]) (h : Reps R 6 ps cs) : Reps R 6 (p :: ps) (va :: vb :: vc :: vd :: ve :: vf :: cs) := Reps.front hp rfl h rfl
theorem Reps.c7 {α : Type} {R : α → List Value → Prop} {ps : List α} {cs : List Value} {p : α} {va vb vc vd ve vf vg : Value} (hp : R p [va, vb, vc, vd, ve, vf, vg]) (h : Reps R 7 ps cs) : Reps R 7 (p :: ps) (va :: vb :: vc :: vd :: ve :: vf :: vg :: cs) := Reps.front hp rfl h rfl
theorem Reps.c8 {α : Type} {R : α → List Value → Prop} {ps : List α} {cs : List Value} {p : α} {va vb vc vd ve vf vg vh : Value} (hp : R p [va, vb, vc, vd, ve, vf, vg, vh]) (h : Reps R 8 ps cs) : Reps R 8 (p :: ps) (va :: vb :: vc :: vd :: ve :: vf :: vg :: vh :: cs) := Reps.front hp rfl h rfl
theorem Reps.c9 {α : Type} {R : α → List Value → Prop} {ps : List α} {cs : List Value} {p : α} {va vb vc vd ve vf vg vh vi : Value} (hp : R p [va, vb, vc, vd, ve, vf, vg, vh, vi]) (h : Reps R 9 ps cs) : Reps R 9 (p :: ps) (va :: vb :: vc :: vd :: ve :: vf :: vg :: vh :: vi :: cs) := Reps.front hp rfl h rfl
theorem Reps.c10 {α : Type} {R : α → List Value → Prop} {ps : List α} {cs : List Value} {p : α} {va vb vc vd ve vf vg vh vi vj : Value} (hp : R p [va, vb, vc, vd, ve, vf, vg, vh, vi, vj]) (h : Reps R 10 ps cs) : Reps R 10 (p :: ps) (va :: vb :: vc :: vd :: ve :: vf :: vg :: vh :: vi :: vj :: cs) := Reps.front hp rfl h rfl
end Go.Proofs.YtpflenaoplblkaaW.PrintWords
end
section
namespace Go.Proofs.YtpflenaoplblkaaW.PrintWords
open Go.RowKit
theorem Kd.R_slice1 {α : Type} {d : Kd α} {e base : Nat} {ok : Nat → Prop} {w : World} {v : Value} {xs : List α} (h : d.R e w base ok v xs) (hn : 0 < xs.length) : ∃ (ad : Addr) (c : Nat), v = .slice (some ad) xs.length c := by
 obtain ⟨A, c, rfl⟩ := Kd.R_slice h
 have h2 := (Kd.R_reads' h).2.2
 obtain ⟨ad, he, _⟩ := h2.2.2 hn
 subst he
 exact ⟨ad, c, rfl⟩
end Go.Proofs.YtpflenaoplblkaaW.PrintWords
namespace Go.Proofs.YtpflenaoplblkaaW.PrintLast
section
variable {ops : Array Oper} {a : Act} {o og : Oper} {g : Nat} {t : Tmp} {u : Bool}
end
end Go.Proofs.YtpflenaoplblkaaW.PrintLast
end
section
namespace Go.Proofs.Ytpflenaoplblkaa.PProtoAll
open Go.RowKit YtpflenaoplblkaaW.PrintWords YtpflenaoplblkaaW.PrintLast YtpflenaoplblkaaW.PrintMore
attribute [local go_sem] max2_int min2_int max_two min_two max_three min_three max_four min_four   -- for this text's walks alone
set_option linter.unusedVariables false
set_option linter.unusedSimpArgs false
def errW : Option Int → Value
 | none => .nilIface
 | some c => .iface 0 (.int .i64 c)
theorem errW_none : errW none = .nilIface := rfl
theorem errW_some (c : Int) : errW (some c) = .iface 0 (.int .i64 c) := rfl
theorem info5 : (Try.prog.info? 5).map (fun i => (i.zero, i.size, i.bytes)) = some (some (.int .u8 0), 1, 1) := by kernel_rfl
theorem info64 : (Try.prog.info? 64).map (fun i => (i.zero, i.size, i.bytes)) = some (some (.agg #[(.int .i64 0), (.int .i64 0), (.slice none 0 0), (.int .i64 0), (.int .i64 0), (.string ⟨#[]⟩), (.int .i64 0), (.slice none 0 0), (.int .i64 0), (.int .i64 0), (.int .i64 0), (.slice none 0 0)]), 12, 152) := by kernel_rfl
structure S35 where
 f0 : Int
 f1 : Int
 f2 : ByteArray
 f3 : Int
 f4 : (List Int)
def k35 : Kd S35 := Kd.iso (Kd.pair (Kd.int .i64) (Kd.pair (Kd.int .i64) (Kd.pair Kd.string (Kd.pair (Kd.int .i64) (Kd.slice 5 (Kd.int .u8)))))) (fun x : S35 => (x.f0, x.f1, x.f2, x.f3, x.f4))
theorem k35_open {w : World} {x : S35} {cs : List Value} (h : k35.K w x cs) : ∃ A4 c4, cs = [.int .i64 x.f0, .int .i64 x.f1, .string x.f2, .int .i64 x.f3, .slice A4 x.f4.length c4] ∧ x.f4.length ≤ c4 ∧ (Kd.int .u8).C w A4 x.f4.length x.f4 := by
 obtain ⟨_, _, rfl, rfl, ⟨_, _, rfl, rfl, ⟨_, _, rfl, rfl, ⟨_, _, rfl, rfl, ⟨A4, c4, rfl, l4, g4⟩⟩⟩⟩⟩ := h
 exact ⟨A4, c4, rfl, l4, g4⟩
theorem k35_mk (w : World) (x : S35) {A4 : Option Addr} {c4 : Nat} (l4 : x.f4.length ≤ c4) (g4 : (Kd.int .u8).C w A4 x.f4.length x.f4) : k35.K w x [.int .i64 x.f0, .int .i64 x.f1, .string x.f2, .int .i64 x.f3, .slice A4 x.f4.length c4] := ⟨[.int .i64 x.f0], [.int .i64 x.f1, .string x.f2, .int .i64 x.f3, .slice A4 x.f4.length c4], rfl, rfl, ⟨[.int .i64 x.f1], [.string x.f2, .int .i64 x.f3, .slice A4 x.f4.length c4], rfl, rfl, ⟨[.string x.f2], [.int .i64 x.f3, .slice A4 x.f4.length c4], rfl, rfl, ⟨[.int .i64 x.f3], [.slice A4 x.f4.length c4], rfl, rfl, ⟨A4, c4, rfl, l4, g4⟩⟩⟩⟩⟩
structure S44 where
 f0 : Int
 f1 : Int
 f2 : Int
 f3 : (List Int)
def k44 : Kd S44 := Kd.iso (Kd.pair (Kd.int .i64) (Kd.pair (Kd.int .i64) (Kd.pair (Kd.int .i64) (Kd.slice 5 (Kd.int .u8))))) (fun x : S44 => (x.f0, x.f1, x.f2, x.f3))
theorem k44_open {w : World} {x : S44} {cs : List Value} (h : k44.K w x cs) : ∃ A3 c3, cs = [.int .i64 x.f0, .int .i64 x.f1, .int .i64 x.f2, .slice A3 x.f3.length c3] ∧ x.f3.length ≤ c3 ∧ (Kd.int .u8).C w A3 x.f3.length x.f3 := by
 obtain ⟨_, _, rfl, rfl, ⟨_, _, rfl, rfl, ⟨_, _, rfl, rfl, ⟨A3, c3, rfl, l3, g3⟩⟩⟩⟩ := h
 exact ⟨A3, c3, rfl, l3, g3⟩
theorem k44_mk (w : World) (x : S44) {A3 : Option Addr} {c3 : Nat} (l3 : x.f3.length ≤ c3) (g3 : (Kd.int .u8).C w A3 x.f3.length x.f3) : k44.K w x [.int .i64 x.f0, .int .i64 x.f1, .int .i64 x.f2, .slice A3 x.f3.length c3] := ⟨[.int .i64 x.f0], [.int .i64 x.f1, .int .i64 x.f2, .slice A3 x.f3.length c3], rfl, rfl, ⟨[.int .i64 x.f1], [.int .i64 x.f2, .slice A3 x.f3.length c3], rfl, rfl, ⟨[.int .i64 x.f2], [.slice A3 x.f3.length c3], rfl, rfl, ⟨A3, c3, rfl, l3, g3⟩⟩⟩⟩
structure S64 where
 f0 : Int
 f1 : Int
 f2 : (List Int)
 f3 : S35
 f4 : S44
def k64 : Kd S64 := Kd.iso (Kd.pair (Kd.int .i64) (Kd.pair (Kd.int .i64) (Kd.pair (Kd.slice 5 (Kd.int .u8)) (Kd.pair k35 k44)))) (fun x : S64 => (x.f0, x.f1, x.f2, x.f3, x.f4))
theorem k64_open {w : World} {x : S64} {cs : List Value} (h : k64.K w x cs) : ∃ A2 c2 A7 c7 A11 c11, cs = [.int .i64 x.f0, .int .i64 x.f1, .slice A2 x.f2.length c2, .int .i64 x.f3.f0, .int .i64 x.f3.f1, .string x.f3.f2, .int .i64 x.f3.f3, .slice A7 x.f3.f4.length c7, .int .i64 x.f4.f0, .int .i64 x.f4.f1, .int .i64 x.f4.f2, .slice A11 x.f4.f3.length c11] ∧ x.f2.length ≤ c2 ∧ (Kd.int .u8).C w A2 x.f2.length x.f2 ∧ x.f3.f4.length ≤ c7 ∧ (Kd.int .u8).C w A7 x.f3.f4.length x.f3.f4 ∧ x.f4.f3.length ≤ c11 ∧ (Kd.int .u8).C w A11 x.f4.f3.length x.f4.f3 := by
 obtain ⟨_, _, rfl, rfl, ⟨_, _, rfl, rfl, ⟨_, _, rfl, ⟨A2, c2, rfl, l2, g2⟩, ⟨_, _, rfl, s3, s8⟩⟩⟩⟩ := h
 obtain ⟨A7, c7, rfl, l7, g7⟩ := k35_open s3
 obtain ⟨A11, c11, rfl, l11, g11⟩ := k44_open s8
 exact ⟨A2, c2, A7, c7, A11, c11, rfl, l2, g2, l7, g7, l11, g11⟩
theorem k64_mk (w : World) (x : S64) {A2 : Option Addr} {c2 : Nat} (l2 : x.f2.length ≤ c2) (g2 : (Kd.int .u8).C w A2 x.f2.length x.f2) {A7 : Option Addr} {c7 : Nat} (l7 : x.f3.f4.length ≤ c7) (g7 : (Kd.int .u8).C w A7 x.f3.f4.length x.f3.f4) {A11 : Option Addr} {c11 : Nat} (l11 : x.f4.f3.length ≤ c11) (g11 : (Kd.int .u8).C w A11 x.f4.f3.length x.f4.f3) : k64.K w x [.int .i64 x.f0, .int .i64 x.f1, .slice A2 x.f2.length c2, .int .i64 x.f3.f0, .int .i64 x.f3.f1, .string x.f3.f2, .int .i64 x.f3.f3, .slice A7 x.f3.f4.length c7, .int .i64 x.f4.f0, .int .i64 x.f4.f1, .int .i64 x.f4.f2, .slice A11 x.f4.f3.length c11] := ⟨[.int .i64 x.f0], [.int .i64 x.f1, .slice A2 x.f2.length c2, .int .i64 x.f3.f0, .int .i64 x.f3.f1, .string x.f3.f2, .int .i64 x.f3.f3, .slice A7 x.f3.f4.length c7, .int .i64 x.f4.f0, .int .i64 x.f4.f1, .int .i64 x.f4.f2, .slice A11 x.f4.f3.length c11], rfl, rfl, ⟨[.int .i64 x.f1], [.slice A2 x.f2.length c2, .int .i64 x.f3.f0, .int .i64 x.f3.f1, .string x.f3.f2, .int .i64 x.f3.f3, .slice A7 x.f3.f4.length c7, .int .i64 x.f4.f0, .int .i64 x.f4.f1, .int .i64 x.f4.f2, .slice A11 x.f4.f3.length c11], rfl, rfl, ⟨[.slice A2 x.f2.length c2], [.int .i64 x.f3.f0, .int .i64 x.f3.f1, .string x.f3.f2, .int .i64 x.f3.f3, .slice A7 x.f3.f4.length c7, .int .i64 x.f4.f0, .int .i64 x.f4.f1, .int .i64 x.f4.f2, .slice A11 x.f4.f3.length c11], rfl, ⟨A2, c2, rfl, l2, g2⟩, ⟨[.int .i64 x.f3.f0, .int .i64 x.f3.f1, .string x.f3.f2, .int .i64 x.f3.f3, .slice A7 x.f3.f4.length c7], [.int .i64 x.f4.f0, .int .i64 x.f4.f1, .int .i64 x.f4.f2, .slice A11 x.f4.f3.length c11], rfl, (k35_mk w x.f3 l7 g7), (k44_mk w x.f4 l11 g11)⟩⟩⟩⟩
theorem k64_mkF (W : World) (ok : Nat → Prop) (x : S64) {A2 : Option Addr} {c2 : Nat} (l2 : x.f2.length ≤ c2) (g2 : Kd.F (Kd.int .u8) W ok A2 x.f2.length x.f2) {A7 : Option Addr} {c7 : Nat} (l7 : x.f3.f4.length ≤ c7) (g7 : Kd.F (Kd.int .u8) W ok A7 x.f3.f4.length x.f3.f4) {A11 : Option Addr} {c11 : Nat} (l11 : x.f4.f3.length ≤ c11) (g11 : Kd.F (Kd.int .u8) W ok A11 x.f4.f3.length x.f4.f3) : Kd.FK k64 W ok x [.int .i64 x.f0, .int .i64 x.f1, .slice A2 x.f2.length c2, .int .i64 x.f3.f0, .int .i64 x.f3.f1, .string x.f3.f2, .int .i64 x.f3.f3, .slice A7 x.f3.f4.length c7, .int .i64 x.f4.f0, .int .i64 x.f4.f1, .int .i64 x.f4.f2, .slice A11 x.f4.f3.length c11] := fun W2 hW => k64_mk W2 x l2 (g2 W2 hW) l7 (g7 W2 hW) l11 (g11 W2 hW)
structure S129 where
 f0 : Int
 f1 : Int
 f2 : Int
 f3 : Int
def z129 : S129 := ⟨(0 : Int), (0 : Int), (0 : Int), (0 : Int)⟩
def k129 : Kd S129 := Kd.iso (Kd.pair (Kd.int .u8) (Kd.pair (Kd.int .u8) (Kd.pair (Kd.int .i64) (Kd.int .i64)))) (fun x : S129 => (x.f0, x.f1, x.f2, x.f3))
theorem k129_open {w : World} {x : S129} {cs : List Value} (h : k129.K w x cs) : cs = [.int .u8 x.f0, .int .u8 x.f1, .int .i64 x.f2, .int .i64 x.f3] := by
 obtain ⟨_, _, rfl, rfl, ⟨_, _, rfl, rfl, ⟨_, _, rfl, rfl, rfl⟩⟩⟩ := h
 exact rfl
theorem k129_mkM (w : World) (base : Nat) (ok : Nat → Prop) (x : S129)  : k129.M w base ok x [.int .u8 x.f0, .int .u8 x.f1, .int .i64 x.f2, .int .i64 x.f3] := ⟨[.int .u8 x.f0], [.int .u8 x.f1, .int .i64 x.f2, .int .i64 x.f3], rfl, rfl, ⟨[.int .u8 x.f1], [.int .i64 x.f2, .int .i64 x.f3], rfl, rfl, ⟨[.int .i64 x.f2], [.int .i64 x.f3], rfl, rfl, rfl⟩⟩⟩
def rd_T129 (xs : List S129) (i : Int) : S129 := xs.getD i.toNat z129
theorem at_T129 {w : World} {A : Option Addr} {n : Nat} {xs : List S129} (h : Kd.C k129 w A n xs) (i : Int) (h0 : 0 ≤ i) (h1 : i < n) : ∃ ad , A = some ad ∧ w.cell? (ad.add (i.toNat * 4)) = some (.int .u8 (rd_T129 xs i).f0) ∧ w.cell? ⟨(ad.add (i.toNat * 4)).block, (ad.add (i.toNat * 4)).off + 1, none⟩ = some (.int .u8 (rd_T129 xs i).f1) ∧ w.cell? ⟨(ad.add (i.toNat * 4)).block, (ad.add (i.toNat * 4)).off + 2, none⟩ = some (.int .i64 (rd_T129 xs i).f2) ∧ w.cell? ⟨(ad.add (i.toNat * 4)).block, (ad.add (i.toNat * 4)).off + 3, none⟩ = some (.int .i64 (rd_T129 xs i).f3) := by
 obtain ⟨ad, c, e, _, hK, hc0⟩ := Kd.C_get h z129 i h0 h1
 have hc : ∀ j u, c[j]? = some u → w.cell? (ad.add (i.toNat * 4 + j)) = some u := hc0
 obtain rfl := k129_open hK
 exact ⟨ad, e, hc 0 _ rfl, by rw [← add_field _ _ 1 (by omega)]; exact hc 1 _ rfl, by rw [← add_field _ _ 2 (by omega)]; exact hc 2 _ rfl, by rw [← add_field _ _ 3 (by omega)]; exact hc 3 _ rfl⟩
end Go.Proofs.Ytpflenaoplblkaa.PProtoAll
end
