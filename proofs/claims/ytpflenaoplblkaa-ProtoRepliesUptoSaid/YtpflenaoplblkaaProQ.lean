import Derived.Test.YtpflenaoplblkaaProP
namespace Go.Proofs.Ytpflenaoplblkaa.ProQ
open Go.RowKit Go.Proofs.YtpflenaoplblkaaW.PrintWords Go.Proofs.YtpflenaoplblkaaW.PrintLast Go.Proofs.Ytpflenaoplblkaa.ProA Go.Proofs.Ytpflenaoplblkaa.ProB Go.Proofs.Ytpflenaoplblkaa.ProC Go.Proofs.Ytpflenaoplblkaa.ProI Go.Proofs.Ytpflenaoplblkaa.ProD Go.Proofs.Ytpflenaoplblkaa.ProE Go.Proofs.Ytpflenaoplblkaa.ProF Go.Proofs.Ytpflenaoplblkaa.ProG Go.Proofs.Ytpflenaoplblkaa.ProH Go.Proofs.Ytpflenaoplblkaa.ProJ Go.Proofs.Ytpflenaoplblkaa.ProK Go.Proofs.Ytpflenaoplblkaa.ProL Go.Proofs.Ytpflenaoplblkaa.ProM Go.Proofs.Ytpflenaoplblkaa.ProN Go.Proofs.Ytpflenaoplblkaa.ProO Go.Proofs.Ytpflenaoplblkaa.ProP
set_option linter.unusedVariables false
set_option linter.unusedSimpArgs false
/-! what encode answers -/
def encParts : List PS → Flds → Option (List Int)
  | [], _ => some []
  | p :: ps, F => if fitsS p F then (encParts ps F).map (wrS p F ++ ·) else none
def clAll (ps : List PS) (F : Flds) : Flds := ps.foldl (fun r p => clS p r) F
def emptyB (F : Flds) (m : Nat) : Bool := decide (F.tn = 0) && decide (F.n = 0) && decide (F.m = 0) && F.name.toList.isEmpty && decide (m = 0)
def encS (tab : List (List PS)) (F : Flds) : Except Int (List Int) :=
  if F.kind < 1 ∨ (tab.length : Int) ≤ F.kind then .error 122 else
  match tab[F.kind.toNat]? with
  | none => .error 122
  | some ps => match encParts ps F with
    | none => .error 123
    | some body => if emptyB (clAll ps F) (clAll ps F).data.length then .ok (beB ((F.kind :: body).length : Int) 4 ++ (F.kind :: body)) else .error 123
def EncPost (w : World) (r : Except Int (List Int)) (e : Ending) (w' : World) : Prop :=
  ∃ (v : Value) (code : Int), e = .returned (.tuple #[v, .int .i64 code]) ∧ Below w.heap.size w w' ∧
    match r with | .ok bs => code = 0 ∧ Own w' w.heap.size (fun _ => True) v bs | .error q => code = q ∧ v = .slice none 0 0
set_option maxHeartbeats 2000000 in
set_option maxRecDepth 100000 in
theorem empty_any (F : Flds) (B : Option Addr) (m c : Nat) (w : World) : Calls Try.prog 47 #[.agg (F.cells (.slice B m c))] w fun e w' => e = .returned (.bool (emptyB F m)) ∧ Below w.heap.size w w' := by
  unfold Flds.cells emptyB
  have hcs : (F.tn == 0) = false ∨ ((F.tn == 0) = true ∧ (F.n == 0) = false) ∨ ((F.tn == 0) = true ∧ (F.n == 0) = true ∧ (F.m == 0) = false) ∨ ((F.tn == 0) = true ∧ (F.n == 0) = true ∧ (F.m == 0) = true ∧ F.name.toList.isEmpty = false) ∨ ((F.tn == 0) = true ∧ (F.n == 0) = true ∧ (F.m == 0) = true ∧ F.name.toList.isEmpty = true) := by
    cases (F.tn == 0) <;> cases (F.n == 0) <;> cases (F.m == 0) <;> cases F.name.toList.isEmpty <;> simp
  have e1 : decide (F.tn = 0) = (F.tn == 0) := rfl
  have e2 : decide (F.n = 0) = (F.n == 0) := rfl
  have e3 : decide (F.m = 0) = (F.m == 0) := rfl
  have e5 : decide (m = 0) = ((m : Int) == 0) := by rw [Bool.eq_iff_iff]; simp
  rw [e1, e2, e3, e5]
  clear e1 e2 e3 e5
  rcases hcs with z1 | ⟨z1, z2⟩ | ⟨z1, z2, z3⟩ | ⟨z1, z2, z3, z4⟩ | ⟨z1, z2, z3, z4⟩
  all_goals
    go_enter Try.func47, Try.ntmps47
    go_wp2_with fail
    go_ret
    exact ⟨by simp [*], by go_grown⟩
theorem own_one (W : World) (base : Nat) (x : Int) (hb : base ≤ W.heap.size) : Own (W.alloc (.cells #[.int .u8 x] 5)) base (fun _ => True) (.slice (some ⟨W.heap.size, 0, none⟩) 1 1) [x] :=
  ⟨fun k hk => trivial, OwnRow.lit W base (ps := [x]) (inner := [.int .u8 x]) ((Reps.none _ _).snoc rfl rfl) hb (by simp)⟩
/-- another block, of another type, was written -/
theorem own_tu1 {base g t : Nat} {w w' : World} {ok : Nat → Prop} {dv : Value} {xs : List Int} {cs : Array Value} (h : Own w base ok dv xs) (hb : Blk w g cs t) (h5 : 5 ≠ t) (ht : Tu [g] w w') : Own w' base ok dv xs :=
  Kd.R_mono (Kd.R_move (Kd.R_bound (Kd.R_types h hb (fun q hq => by
    have : q = 5 := by simpa [Kd.int, Kd.scalar] using hq
    subst this
    exact h5))) (fun k hk => ht.block k hk.2.2.1 (by simp; exact hk.1.2))) (fun k hk => hk.1.1)
/-- what a row may lie in, told anew -/
theorem own_ok {w : World} {base : Nat} {ok ok' : Nat → Prop} {v : Value} {xs : List Int} (h : Own w base ok v xs) (hk : ∀ k, v.ownBlock = some k → ok' k) : Own w base ok' v xs := Kd.R_of_own (Kd.own_of_R h) hk
theorem wrS_len (p : PS) (F : Flds) (m : Nat) (hm : F.data.length = m) (hs : psmall p) (hf : fitsS p F = true) : (wrS p F).length ≤ m + 21 := by
  cases p with
  | num o k l h =>
    simp only [wrS, beB_len]
    have := hs.2.1
    omega
  | name =>
    simp only [wrS, List.length_append, beB_len, bytesOf_length]
    simp only [fitsS, nameOk, Bool.and_eq_true, decide_eq_true_eq] at hf
    omega
  | blob h =>
    simp only [wrS, List.length_append, beB_len]
    omega
theorem EncSt_body {w : World} {base : Nat} {ok : Nat → Prop} {v : Value} {x : Int} {bb ys : List Int} (h : Own w base ok v ((x :: bb) ++ ys)) : Own w base (fun _ => True) v (x :: (bb ++ ys)) := Kd.R_mono (by simpa using h) (fun _ _ => trivial)
theorem own_in {w a : World} {base g n c : Nat} {ok : Nat → Prop} {xs : List Int} (h : Own w base ok (.slice (some ⟨g, 0, none⟩) n c) xs) : Own w base (okS [g] a) (.slice (some ⟨g, 0, none⟩) n c) xs :=
  own_ok h (fun k hk => .inl (by
    have : g = k := by simpa [Value.ownBlock] using hk
    simp [this]))
structure EncSt (w wr : World) (F Fr : Flds) (dv v : Value) (bs : List Int) : Prop where
  fd : FdAt wr w.heap.size F dv
  rest : ∃ B c, FdAt wr (w.heap.size + 2) Fr (.slice B Fr.data.length c)
  body : Own wr w.heap.size (fun _ => True) v bs
  below : Below w.heap.size w wr
  size : w.heap.size + 3 ≤ wr.heap.size
theorem EncSt.below' {w wr w' : World} {F Fr : Flds} {dv v : Value} {bs : List Int} (h : EncSt w wr F Fr dv v bs) (hb : Below wr.heap.size wr w') : EncSt w w' F Fr dv v bs := by
  obtain ⟨B, c, hr⟩ := h.rest
  exact ⟨Blk.below h.fd hb, ⟨B, c, Blk.below hr hb⟩, Kd.R_below h.body hb, h.below.trans (hb.mono h.below.size), by have := h.size; have := hb.size; omega⟩
theorem enc_err {w w' : World} {r : Except Int (List Int)} {q : Int} (hr : r = .error q) (hb : Below w.heap.size w w') : EncPost w r (.returned (.tuple #[.slice none 0 0, .int .i64 q])) w' := by
  subst hr
  exact ⟨_, _, rfl, hb, rfl, rfl⟩
set_option maxHeartbeats 4000000 in
set_option maxRecDepth 100000 in
theorem encode_ok (tab : List (List PS)) (w : World) (lo hi m c : Nat) (tv : Value) (B : Option Addr) (F : Flds)
    (ht : TabAt w lo hi tv tab) (hhi : hi ≤ w.heap.size) (hs : TabOk tab) (htl : tab.length ≤ 200) (hx : BytesAt w B m F.data) (hbig : m ≤ 1000000000) :
    Calls Try.prog 27 #[tv, .agg (F.cells (.slice B m c))] w (EncPost w (encS tab F)) := by
  have hlen := BytesAt.len hx
  obtain ⟨tg, tc, rfl, t1, t2, hrows⟩ := id ht
  have HT := Lib.hid ht
  have HX := Lib.hid hx
  have HL := Lib.hid hlen
  have HRW := Lib.hid hrows
  clear ht hx hlen hrows
  unfold Flds.cells
  by_cases q1 : F.kind < 1
  · have d1 : decide (F.kind < 1) = true := by simpa using q1
    have HR := Lib.hid (show encS tab F = .error 122 by unfold encS; rw [if_pos (.inl q1)])
    go_enter Try.func27, Try.ntmps27
    go_wp2_with fail
    go_ret2
    exact enc_err HR.out (by go_grown)
  · have d1 : decide (F.kind < 1) = false := by simpa using q1
    by_cases q2 : (tab.length : Int) ≤ F.kind
    · have d2 : decide (F.kind ≥ (tab.length : Int)) = true := by simpa using q2
      have HR := Lib.hid (show encS tab F = .error 122 by unfold encS; rw [if_pos (.inr q2)])
      go_enter Try.func27, Try.ntmps27
      go_wp2_with fail
      go_ret2
      exact enc_err HR.out (by go_grown)
    · have d2 : decide (F.kind ≥ (tab.length : Int)) = false := by simp; omega
      have hkl : F.kind.toNat < tab.length := by omega
      obtain ⟨ps, hps⟩ : ∃ ps, tab[F.kind.toNat]? = some ps := ⟨_, List.getElem?_eq_getElem hkl⟩
      have hsp : ∀ p ∈ ps, psmall p := hs.small ps (List.mem_of_getElem? hps)
      have hl4 := hs.len ps (List.mem_of_getElem? hps)
      obtain ⟨rv, hrc, RA, rc, hrv, hparts⟩ := HRW.out F.kind.toNat ps hps
      subst hrv
      have HRC := Lib.hid hrc
      have HP := Lib.hid hparts
      have HPS := Lib.hid hps
      clear hparts hps HRW hrc
      go_enter Try.func27, Try.ntmps27
      go_upto_region 4 with (fail)
      have hst : EncSt w (((w.alloc (Obj.cells #[Value.int IntKind.i64 F.kind, Value.int IntKind.i64 F.tn, Value.int IntKind.i64 F.n, Value.int IntKind.i64 F.m, Value.string F.name, Value.slice B m c] 71)).alloc (Obj.cells #[Value.int IntKind.u8 F.kind] 5)).alloc (Obj.cells #[Value.int IntKind.i64 F.kind, Value.int IntKind.i64 F.tn, Value.int IntKind.i64 F.n, Value.int IntKind.i64 F.m, Value.string F.name, Value.slice B m c] 71)) F F (.slice B m c) (.slice (some ⟨w.heap.size + 1, 0, none⟩) 1 1) [F.kind] :=
        ⟨blkOld (blkOld (blkNew rfl)), ⟨B, c, by rw [HL.out]; exact blkNew (by simp)⟩, Kd.R_below (by
          have h := own_one (w.alloc (Obj.cells #[Value.int IntKind.i64 F.kind, Value.int IntKind.i64 F.tn, Value.int IntKind.i64 F.n, Value.int IntKind.i64 F.m, Value.string F.name, Value.slice B m c] 71)) w.heap.size F.kind (by simp)
          simpa using h) (ba _), by go_grown, by simp⟩
      generalize (((w.alloc (Obj.cells #[Value.int IntKind.i64 F.kind, Value.int IntKind.i64 F.tn, Value.int IntKind.i64 F.n, Value.int IntKind.i64 F.m, Value.string F.name, Value.slice B m c] 71)).alloc (Obj.cells #[Value.int IntKind.u8 F.kind] 5)).alloc (Obj.cells #[Value.int IntKind.i64 F.kind, Value.int IntKind.i64 F.tn, Value.int IntKind.i64 F.n, Value.int IntKind.i64 F.m, Value.string F.name, Value.slice B m c] 71)) = W1 at hst ⊢
      have hb1 := hst.below.block tg (by omega)
      have hrc1 := cell_keep HRC.out hb1
      have kc0 : W1.cell? ⟨w.heap.size, 0, none⟩ = some (.int .i64 F.kind) := Blk.cell (i := 0) hst.fd rfl
      have HST := Lib.hid hst
      have HE := Lib.hid (show encS tab F = match encParts ps F with | none => .error 123 | some body => if emptyB (clAll ps F) (clAll ps F).data.length then .ok (beB ((F.kind :: body).length : Int) 4 ++ (F.kind :: body)) else .error 123 by
        unfold encS
        rw [if_neg (by omega), HPS.out])
      clear hst hb1 HPS HRC
      go_wp2_with fail
      go_loopw [31, 7] (fun i v wr => ∃ (j : Nat) (Fr : Flds) (bb : List Int), j ≤ ps.length ∧ i = .int .i64 j ∧ Hid (EncSt w wr F Fr (.slice B m c) v (F.kind :: bb)) ∧ Hid (bb.length ≤ j * (m + 21)) ∧ Hid (encParts ps F = (encParts (ps.drop j) F).map (bb ++ ·)) ∧ Hid (clAll ps F = clAll (ps.drop j) Fr)) (fun i _ _ => (ps.length - (intOf i).toNat))
      case atStart => exact ⟨0, F, [], by omega, rfl, HST, Lib.hid (by simp), Lib.hid (by simp), Lib.hid rfl⟩
      case round =>
        clear HST hrc1 kc0
        obtain ⟨j, Fr, bb, hj, rfl, HST, HBL, HEP, HCL⟩ := hrel
        by_cases hjl : j < ps.length
        · obtain ⟨p, hp⟩ : ∃ p, ps[j]? = some p := ⟨_, List.getElem?_eq_getElem hjl⟩
          have hsm := hsp p (List.mem_of_getElem? hp)
          have hdr : ps.drop j = p :: ps.drop (j + 1) := by rw [List.drop_eq_getElem_cons hjl]; congr 1; exact (List.getElem?_eq_some_iff.1 hp).2
          obtain ⟨g, hRA, g1, g2, f0, f1, f2, f3, e0, e1, e2, e3, hpt⟩ := HP.out j p hp
          subst hRA
          have hgb := HST.out.below.block g (by omega)
          rw [Nat.mul_comm] at e0 e1 e2 e3
          obtain ⟨n0, cp0, n1, cp1, n2, cp2, n3, cp3, rfl, rfl, rfl, rfl, en0, en1, en2, en3⟩ := PartAt.fns hpt
          have ec1 := fun v => en1 (#[pt w.heap.size] ++ cp1) v
          have ec2 := fun x v => en2 (#[x, pt w.heap.size] ++ cp2) v
          have ec3 := fun v => en3 (#[pt (w.heap.size + 1 + 1)] ++ cp3) v
          have k0 := cell_keep e0 hgb
          have k1 := cell_keep e1 hgb
          have k2 := cell_keep e2 hgb
          have k3 := cell_keep e3 hgb
          have HPT := Lib.hid hpt
          have HDR := Lib.hid hdr
          have hj1000 : j ≤ 1000 := by omega
          have dl : decide ((j : Int) < (ps.length : Int)) = true := by simp; omega
          clear e0 e1 e2 e3 hpt hdr hp hgb
          go_wp2_with fail
          have hst1 := HST.out.below' (ba (Obj.cells #[Value.func (Fn.func n0) #[] cp0, Value.func (Fn.func n1) #[] cp1, Value.func (Fn.func n2) #[] cp2, Value.func (Fn.func n3) #[] cp3] 91))
          have hbp : Blk (wr.alloc (Obj.cells #[Value.func (Fn.func n0) #[] cp0, Value.func (Fn.func n1) #[] cp1, Value.func (Fn.func n2) #[] cp2, Value.func (Fn.func n3) #[] cp3] 91)) wr.heap.size #[Value.func (Fn.func n0) #[] cp0, Value.func (Fn.func n1) #[] cp1, Value.func (Fn.func n2) #[] cp2, Value.func (Fn.func n3) #[] cp3] 91 := blkNew rfl
          have hsz0 := HST.out.size
          generalize wr.alloc (Obj.cells #[Value.func (Fn.func n0) #[] cp0, Value.func (Fn.func n1) #[] cp1, Value.func (Fn.func n2) #[] cp2, Value.func (Fn.func n3) #[] cp3] 91) = W2 at hst1 hbp ⊢
          clear HST k0 k1 k2 k3
          refine (FCalls.calls (part_fits p W2 lo hi w.heap.size _ _ _ _ B m c F (HPT.out.step (fun q _ hq => hst1.below.block q (by omega)) (Nat.le_refl _) (Nat.le_refl _)) hst1.fd HL.out)).mono ?_
          rintro e w3 ⟨rfl, hb3⟩
          have hst3 := hst1.below' hb3
          have hbp3 := Blk.below hbp hb3
          have kb2 := Blk.cell (i := 2) hbp3 rfl
          have HST3 := Lib.hid hst3
          have HBP3 := Lib.hid hbp3
          clear hst1 hst3 hbp hbp3 hb3
          cases hfit : fitsS p F with
          | false =>
            have HR := Lib.hid (show encS tab F = .error 123 by
              rw [HE.out, HEP.out, HDR.out]
              simp [encParts, hfit])
            go_wp2_with fail
            go_ret2
            exact enc_err HR.out HST3.out.below
          | true =>
            have HFIT := Lib.hid hfit
            clear hfit
            go_wp2_with fail
            have hst3 := HST3.out
            have hbase := Kd.R_base hst3.body
            have hff : w.heap.size ∉ u7.ownBlock.toList := by
              have := Kd.R_ne hst3.body hst3.fd (by decide)
              simpa [eq_comm] using this
            obtain ⟨Br, cr, hrest⟩ := hst3.rest
            have hrr : w.heap.size + 2 ∉ u7.ownBlock.toList := by
              have := Kd.R_ne hst3.body hrest (by decide)
              simpa [eq_comm] using this
            have hpp : wr.heap.size ∉ u7.ownBlock.toList := by
              have := Kd.R_ne hst3.body HBP3.out (by decide)
              simpa [eq_comm] using this
            have hbl := HBL.out
            have hml : j * (m + 21) ≤ 1000 * (m + 21) := Nat.mul_le_mul_right _ hj1000
            generalize j * (m + 21) = jm at hbl hml
            refine (FCalls.calls (part_write p w3 lo hi w.heap.size w.heap.size u7.ownBlock.toList _ _ _ _ u7 B m c _ F (HPT.out.step (fun q _ hq => hst3.below.block q (by omega)) (Nat.le_refl _) (Nat.le_refl _)) hsm hst3.fd (BytesAt.below (B := 0) HX.out hst3.below) (fun a ha hm0 hk => by
              have h1 := BytesAt.lt HX.out hm0 a ha
              have h2 := hbase a.block (by simpa [eq_comm] using hk)
              omega) hff (own_ok hst3.body (fun k hk => .inl (by simp [hk]))) hst3.below.size (by rw [List.length_cons]; omega) (by omega) HFIT.out)).mono ?_
            rintro e w4 ⟨v4, rfl, ho4, ht4, hb4⟩
            have hfd4 := Blk.tu hst3.fd ht4 hff
            have hr4 := Blk.tu hrest ht4 hrr
            have hbp4 := Blk.tu HBP3.out ht4 hpp
            have kb3 := Blk.cell (i := 3) hbp4 rfl
            have hB4 := hst3.below.trans hb4
            have hsz4 := ht4.size
            have hsz3 := hst3.size
            have HFD4 := Lib.hid hfd4
            have HR4 := Lib.hid hr4
            have HB4 := Lib.hid hB4
            have HO4 := Lib.hid (EncSt_body ho4)
            have HWL := Lib.hid (wrS_len p F m HL.out hsm HFIT.out)
            clear hst3 hrest hfd4 hr4 hbp4 hB4 ho4 ht4 hb4 hff hrr hpp hbase hbl hml kb2
            go_wp2_with fail
            refine (FCalls.calls (part_clear p w4 lo hi (w.heap.size + 2) _ _ _ _ _ Fr (HPT.out.step (fun q _ hq => HB4.out.block q (by omega)) (Nat.le_refl _) (Nat.le_refl _)) HR4.out)).mono ?_
            rintro e w5 ⟨dv5, rfl, hf5, hd5, ht5⟩
            have hst5 : EncSt w w5 F (clS p Fr) (.slice B m c) v4 (F.kind :: (bb ++ wrS p F)) := by
              refine ⟨Blk.tu HFD4.out ht5 (by simp), ?_, own_tu1 HO4.out HR4.out (by decide) ht5, HB4.out.trans (ht5.below HB4.out.size (by simp)), by have := ht5.size; omega⟩
              rcases hd5 with ⟨rfl, h2⟩ | ⟨rfl, h2⟩
              · exact ⟨Br, cr, by rw [h2]; exact hf5⟩
              · exact ⟨none, 0, by rw [h2]; exact hf5⟩
            have HST5 := Lib.hid hst5
            clear hst5 hf5 hd5 ht5
            go_wp2_with fail
            refine ⟨⟨j + 1, clS p Fr, bb ++ wrS p F, by omega, by go_num, HST5, Lib.hid ?_, Lib.hid ?_, Lib.hid ?_⟩, by simp [intOf]; omega⟩
            · have h1 := HBL.out
              have h2 := HWL.out
              rw [List.length_append, Nat.succ_mul]
              exact Nat.add_le_add h1 h2
            · rw [HEP.out, HDR.out]
              simp only [encParts, HFIT.out, if_true, Option.map_map]
              congr 1
              funext l
              simp
            · rw [HCL.out, HDR.out]
              rfl
        · have hjj : j = ps.length := by omega
          have dl : decide ((j : Int) < (ps.length : Int)) = false := by simp; omega
          have hst := HST.out
          obtain ⟨Br, cr, hrest⟩ := hst.rest
          obtain ⟨A7, c7, hv7, hc7, hr7⟩ := Kd.R_reads hst.body
          subst hv7
          have hn7 : (F.kind :: bb).length ≤ 1000 * (m + 21) + 1 := by
            have h1 := HBL.out
            have h2 : j * (m + 21) ≤ 1000 * (m + 21) := Nat.mul_le_mul_right _ (by omega)
            exact Nat.succ_le_succ (Nat.le_trans h1 h2)
          generalize hnn : (F.kind :: bb).length = n7 at hn7 hc7 hr7
          have HR7 := Lib.hid hr7
          have HN7 := Lib.hid hnn
          have HE2 := Lib.hid (show encS tab F = if emptyB Fr Fr.data.length then .ok (beB (n7 : Int) 4 ++ (F.kind :: bb)) else .error 123 by
            have h1 : encParts ps F = some bb := by rw [HEP.out, hjj, List.drop_length]; simp [encParts]
            have h2 : clAll ps F = Fr := by rw [HCL.out, hjj, List.drop_length]; rfl
            rw [HE.out, h1, h2]
            simp only
            rw [hnn])
          obtain ⟨c0, c1, c2, c3, c4, c5⟩ := fdCells hrest
          have HS := Lib.hid hst.below
          clear hst hrest hr7 HST HBL HEP HCL HE hjj hnn
          cases hemp : emptyB Fr Fr.data.length with
          | false =>
            go_wp2_with (refine (empty_any Fr Br _ cr wr).mono ?_; rw [hemp]; rintro e w3 ⟨rfl, hb3⟩)
            go_ret2
            exact enc_err (by rw [HE2.out, hemp]; rfl) (HS.out.trans (hb3.mono HS.out.size))
          | true =>
            have HEMP := Lib.hid hemp
            obtain ⟨i5, hi5, hz5a, hz5b, hz5c⟩ := info_parts info5
            go_wp2_with (first
              | (refine (empty_any Fr Br _ cr wr).mono ?_; rw [hemp]; rintro e w3 ⟨rfl, hb3⟩; have HB3 := Lib.hid hb3; clear hb3)
              | (at_make; refine wpList_make_own _ rfl (.const (.int .i64 0)) (.tmp 52) 22 rfl w.heap.size 5 i5 (.int .u8 0) 1 Try.underlying22 hi5 hz5a hz5b .i64 .i64 _ (4 + n7) rfl rfl ?hC ?hb2 ?hb3 ?hb4 ?_; (case hC => omega); (case hb2 => rw [hz5c]; omega); (case hb3 => unfold maxLen; omega); (case hb4 => exact Nat.le_trans HS.out.size HB3.out.size); intro w4 ho4 hg4; have HO4 := Lib.hid (Kd.R_of_own (h1 := fun _ => rfl) (enc := Value.int .u8) (xs := []) (ok := fun _ => True) ho4 (fun _ _ => trivial)); have HG4 := Lib.hid hg4; clear ho4 hg4)
              | (go_at_call 48; have hsz4 : w.heap.size ≤ w4.heap.size := Nat.le_trans (Nat.le_trans HS.out.size HB3.out.size) HG4.out.size; refine (put_ok w.heap.size [w3.heap.size] _ [] (n7 : Int) 4 _ (own_in HO4.out) hsz4 (by omega) (by omega) (by omega) (by simp)).mono ?_; rintro e w5 ⟨v5, rfl, ho5, ht5, hb5⟩; have HO5 := Lib.hid ho5; have HT5 := Lib.hid ht5; have HB5 := Lib.hid hb5; clear ho5 ht5 hb5)
              | ((with_reducible refine gate_builtin (b := .append) (xs := #[.tmp 56, .tmp 57]) rfl ?_); at_builtin; have hB3 := HS.out.trans (HB3.out.mono HS.out.size); have hB5 : Below w.heap.size w w5 := (hB3.grown HG4.out hB3.size (by simp)).trans HB5.out; have hrd : BytesAt w5 A7 n7 (F.kind :: bb) := BytesAt.tu (BytesAt.tu (S := []) (BytesAt.below (B := 0) HR7.out HB3.out) ((Tu.refl _ _).grown HG4.out (by simp)) (by simp)) HT5.out (fun a ha hn hm => (by have h1 := BytesAt.lt (BytesAt.below (B := 0) HR7.out HB3.out) hn a ha; simp at hm; omega)); refine app_bytes (w0 := w) w.heap.size rfl (.tmp 56) (.tmp 57) rfl v5 ([] ++ beB (n7 : Int) 4) (F.kind :: bb) A7 n7 c7 (fun _ => True) rfl rfl (Kd.R_mono HO5.out (fun _ _ => trivial)) hrd (fun _ _ => trivial) hB5 hB5.size ?hl ?_; (case hl => simp [beB_len]; omega); intro v6 w6 ho6 hb6 hg6 hat6; clear hrd hB3 hB5 hg6 hat6; have HO6 := Lib.hid ho6; have HB6 := Lib.hid hb6; clear ho6 hb6))
            go_ret2
            refine ⟨v6, 0, rfl, HB6.out, ?_⟩
            rw [HE2.out, HEMP.out]
            exact ⟨rfl, HO6.out⟩
end Go.Proofs.Ytpflenaoplblkaa.ProQ
