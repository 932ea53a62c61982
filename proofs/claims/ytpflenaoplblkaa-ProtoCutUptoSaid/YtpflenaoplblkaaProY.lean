import Derived.Test.YtpflenaoplblkaaProX
import Derived.Deep.Cut
namespace Go.Proofs.Ytpflenaoplblkaa.ProY
open Go.RowKit Go.Proofs.YtpflenaoplblkaaW.PrintWords Go.Proofs.YtpflenaoplblkaaW.PrintLast Go.Proofs.Ytpflenaoplblkaa.ProA Go.Proofs.Ytpflenaoplblkaa.ProB Go.Proofs.Ytpflenaoplblkaa.ProC Go.Proofs.Ytpflenaoplblkaa.ProI Go.Proofs.Ytpflenaoplblkaa.ProD Go.Proofs.Ytpflenaoplblkaa.ProE Go.Proofs.Ytpflenaoplblkaa.ProF Go.Proofs.Ytpflenaoplblkaa.ProG Go.Proofs.Ytpflenaoplblkaa.ProH Go.Proofs.Ytpflenaoplblkaa.ProJ Go.Proofs.Ytpflenaoplblkaa.ProK Go.Proofs.Ytpflenaoplblkaa.ProL Go.Proofs.Ytpflenaoplblkaa.ProM Go.Proofs.Ytpflenaoplblkaa.ProN Go.Proofs.Ytpflenaoplblkaa.ProO Go.Proofs.Ytpflenaoplblkaa.ProP Go.Proofs.Ytpflenaoplblkaa.ProQ Go.Proofs.Ytpflenaoplblkaa.ProR Go.Proofs.Ytpflenaoplblkaa.ProS Go.Proofs.Ytpflenaoplblkaa.ProT Go.Proofs.Ytpflenaoplblkaa.ProX
set_option linter.unusedVariables false
set_option linter.unusedSimpArgs false
theorem feed_facts {tab : List (List PS)} : ∀ (k : Nat) (b : List Int), b.length < k → (feedS tab b).1.length + (feedS tab b).2.2.length ≤ b.length ∧ ∀ x ∈ (feedS tab b).2.2, x ∈ b := by
  intro k
  induction k with
  | zero => intro b h; omega
  | succ k ih =>
    intro b hl
    cases hc : cutS tab b with
    | error q => rw [feedS_err hc]; exact ⟨by simp, by simp⟩
    | ok r =>
      cases r with
      | none => rw [feedS_wait hc]; exact ⟨by simp, fun x hx => hx⟩
      | some x =>
        obtain ⟨F, n⟩ := x
        obtain ⟨h1, h2, _⟩ := cutS_some hc
        obtain ⟨i1, i2⟩ := ih (b.drop n) (by rw [List.length_drop]; omega)
        rw [feedS_step hc]
        refine ⟨?_, fun x hx => List.mem_of_mem_drop (i2 x hx)⟩
        rw [List.length_drop] at i1
        simp only [List.length_cons]
        omega
theorem take_piece (xs : List Int) (a m : Nat) : xs.take (a + m) = xs.take a ++ (xs.take (a + m)).drop a := by
  have h := List.take_append_drop a (xs.take (a + m))
  rw [List.take_take, Nat.min_eq_left (by omega)] at h
  exact h.symm
structure CutSt (w5 wr : World) (gy : Nat) (xs : List Int) (kv wv : Value) (ks : List Flds) (ws : List Int) (fc : Int) (at_ : Nat) : Prop where
  tu : Tu [gy] w5 wr
  dec : Blk wr gy #[wv, .bool (fc != 0)] 67
  own : Own wr w5.heap.size (fun _ => True) wv ws
  row : Kd.R k35 35 wr w5.heap.size (fun q => some q ≠ wv.ownBlock) kv (ks.map msgOf)
  eq : feedS msgTab (xs.take at_) = (ks, fc, ws)
/-- k = append(k, m...): the rows of m are newer than k's own -/
theorem app_rows {ops : Array Oper} {rest : List Oper} {o : Oper} {a : Act} {Q : Exit → Act → World → Prop} {w0 W : World} (base base2 : Nat) (hgd : o.guard = none) (s x : Operand)
    (ho : o.op = .call { callee := .builtin .append, args := #[s, x], argTypes := #[27, 27] }) (v wv : Value) (xs ys : List S35) (A : Option Addr) (m c : Nat) (hs : a.eval s = v) (hx : a.eval x = .slice A m c)
    (HO : Kd.R k35 35 W base (fun q => some q ≠ wv.ownBlock) v xs) (hlt : ∀ q, v.ownBlock = some q → q < base2) (hbb : base ≤ base2) (HR : Kd.R k35 35 W base2 (fun q => some q ≠ wv.ownBlock) (.slice A m c) ys) (hw : ∀ q, wv.ownBlock = some q → q < W.heap.size)
    (HB : Below base w0 W) (hbase : base ≤ W.heap.size) (hl : (xs.length + m) * 64 ≤ 140737488355328)
    (h : ∀ v1 w1, Kd.R k35 35 w1 base (fun q => some q ≠ wv.ownBlock) v1 (xs ++ ys) → Below base w0 w1 → W.grownBy w1 v.ownBlock → wpList Try.prog ops Q rest (a.put o.dst v1) w1) :
    wpList Try.prog ops Q (o :: rest) a W := by
  have hb := Kd.R_bound HR
  obtain ⟨A2, c2, hv2, _, hrd⟩ := OwnRow.reads hb.2
  injection hv2 with e1 e2 e3
  subst e1
  rw [← e2] at hrd
  refine Kd.R_append_rows k35 (w0 := w0) base hgd s x 27 35 (.agg #[.int .i64 0, .int .i64 0, .string ⟨#[]⟩, .int .i64 0, .slice none 0 0]) 64 ho Try.underlying27 info35 rfl (by decide) (by omega) v xs ys A m c (fun q => some q ≠ wv.ownBlock) _ hs hx HO hrd (fun x cs hM => k35.M_lower hbb hM) ?_ ?_ HB hbase hl (fun v1 w1 h1 h2 h3 _ => h v1 w1 h1 h2 h3)
  · intro q hq
    refine ⟨hq.1.1, fun e => ?_⟩
    have := hlt q e.symm
    have := hq.1.2.1
    omega
  · intro q hq e
    have := hw q e.symm
    omega
set_option maxHeartbeats 8000000 in
set_option maxRecDepth 100000 in
theorem cut_walk (A A1 : Option Addr) (c c1 : Nat) (xs cs : List Int) (w : World) (hx : BytesAt w A xs.length xs) (hc : xs.length ≤ c) (hu : u8s xs) (hn : xs.length ≤ 1048576)
    (hcs : ReadsInt w .i64 A1 cs.length cs) (hcb : ∀ y ∈ cs, -9223372036854775808 ≤ y ∧ y ≤ 9223372036854775807) (hcl : cs.length ≤ 1048576) :
    Calls Try.prog 3 #[.slice A xs.length c, .slice A1 cs.length c1] w fun e w' => e = .returned (.bool true) ∧ Below w.heap.size w w' := by
  have hff := feed_facts (tab := msgTab) (xs.length + 1) xs (by omega)
  generalize hr : feedS msgTab xs = r at hff
  obtain ⟨ms, code, rest⟩ := r
  simp only at hff
  have hml : ms.length + rest.length ≤ xs.length := hff.1
  have HR := Lib.hid hr
  have HX := Lib.hid hx
  have HCS := Lib.hid hcs
  have HCB := Lib.hid hcb
  clear hff hr hx hcs hcb
  go_enter Try.func3, Try.ntmps3
  go_wp2_with fail
  refine (fed_ok w).mono ?_
  rintro e w1 ⟨rfl, hb1⟩
  have HB1 := Lib.hid hb1
  clear hb1
  go_wp2_with fail
  refine (new_ok w1).mono ?_
  rintro e w2 ⟨rfl, hw2⟩
  have HD2 := Lib.hid (show Blk w2 w1.heap.size #[.slice none 0 0, .bool false] 67 by rw [← hw2]; exact blkNew rfl)
  have HB2 := Lib.hid (show Below w1.heap.size w1 w2 by rw [← hw2]; exact ba _)
  clear hw2
  go_wp2_with fail
  refine (new_ok w2).mono ?_
  rintro e w3 ⟨rfl, hw3⟩
  have HE3 := Lib.hid (show Blk w3 w2.heap.size #[.slice none 0 0, .bool false] 67 by rw [← hw3]; exact blkNew rfl)
  have HB3 := Lib.hid (show Below w2.heap.size w2 w3 by rw [← hw3]; exact ba _)
  clear hw3
  have hs12 := HB1.out.size
  have hs23 := HB2.out.size
  have hs34 := HB3.out.size
  have hgg : w1.heap.size < w2.heap.size := Blk.lt HD2.out
  have hgy : w2.heap.size < w3.heap.size := Blk.lt HE3.out
  have HBA := Lib.hid (HB1.out.trans ((HB2.out.trans (HB3.out.mono hs23)).mono hs12))
  go_wp2_with (at_builtin; refine app_bytes (w0 := w3) w3.heap.size rfl (.tmp 34) (.tmp 35) rfl _ [] xs A xs.length c (fun _ => True) rfl rfl (own_empty w3 w3.heap.size _ (Nat.le_refl _) trivial) (BytesAt.below (B := 0) (BytesAt.below (B := 0) HX.out HBA.out) (ba _)) (fun _ _ => trivial) (ba _) (by simp) (by simp; omega) ?_; intro v1 w4 ho hb hg hat; have HO4 := Lib.hid ho; have HB4 := Lib.hid hb; clear ho hb hg hat)
  obtain ⟨A4, c4, hv4, hc4, hr4⟩ := Kd.R_reads HO4.out
  subst hv4
  have HD4 := Lib.hid (Blk.below (Blk.below HD2.out HB3.out) HB4.out)
  have HE4 := Lib.hid (Blk.below HE3.out HB4.out)
  have hs45 := HB4.out.size
  refine (feed_to w4 w1.heap.size 0 c4 (.slice none 0 0) [] xs A4 HR.out HD4.out (Kd.R_nil _ _ _ _ _) (by omega) hr4 hc4 u8n hu (by simp; omega)).mono ?_
  rintro e w5 ⟨A5, c5, B5, c5', rfl, hr5, hd5, ho5, ht5⟩
  have ht5' : Tu [w1.heap.size] w4 w5 := ht5.mono (fun i hi => .inl (by simpa [Value.ownBlock] using hi))
  have HD5 := Lib.hid hd5
  have HE5 := Lib.hid (show Blk w5 w2.heap.size #[.slice none 0 0, .bool false] 67 from Blk.tu HE4.out ht5' (by simp; omega))
  have HL5 := Lib.hid hr5
  have HB5 := Lib.hid ((HBA.out.trans (HB4.out.mono (by omega))).trans (ht5'.below (B := w.heap.size) (by omega) (by simp; omega)))
  have hs56 := ht5'.size
  clear hr4 hr5 hd5 ho5 ht5 ht5' HD2 HD4 HE3 HE4 HB1 HB2 HB3 HB4 HO4 HBA hc4
  go_wp2_with fail
  go_loopw [10, 11, 12, 13] (fun kv f t i wr => ∃ (j at_ : Nat) (fc : Int) (ks : List Flds) (wv : Value) (ws : List Int), i = .int .i64 (j : Int) ∧ t = .int .i64 (at_ : Int) ∧ f = .int .i64 fc ∧ j ≤ cs.length + 1 ∧ at_ ≤ xs.length ∧ Hid (j = cs.length + 1 → fc = 0 → at_ = xs.length) ∧ Hid (CutSt w5 wr w2.heap.size xs kv wv ks ws fc at_)) (fun _ _ _ i _ => cs.length + 1 - (intOf i).toNat)
  case atStart => exact ⟨0, 0, 0, [], .slice none 0 0, [], rfl, rfl, rfl, by omega, by omega, Lib.hid (by omega), Lib.hid ⟨Tu.refl _ _, HE5.out, Kd.R_nil _ _ _ _ _, Kd.R_nil _ _ _ _ _, by kernel_rfl⟩⟩
  case round =>
    obtain ⟨j, at_, fc, ks, wv, ws, rfl, rfl, rfl, hj, hat, HEnd, HS⟩ := hrel
    by_cases hgo : j ≤ cs.length ∧ fc = 0
    · obtain ⟨hgo, rfl⟩ := hgo
      have dj : decide (j ≤ cs.length) = true := by simpa using hgo
      have hff := feed_facts (tab := msgTab) (at_ + 1) (xs.take at_) (by rw [List.length_take]; omega)
      rw [HS.out.eq] at hff
      simp only at hff
      have hks : ks.length + ws.length ≤ xs.length := by have := hff.1; rw [List.length_take] at this; omega
      have HUW := Lib.hid (show u8s ws from fun x hx => hu x (List.mem_of_mem_take (hff.2 x hx)))
      clear hff
      have hcell : j < cs.length → ∃ ad, A1 = some ad ∧ wr.cell? (ad.add j) = some (.int .i64 (cs.getD j 0)) := fun hlt => by
        obtain ⟨ad, e, hcc⟩ := HCS.out.2.2 (by omega)
        refine ⟨ad, e, ?_⟩
        have h1 := hcc j hlt
        have h2 := World.block_lt_of_cell? w _ h1
        have hbw : Below w.heap.size w wr := HB5.out.trans (HS.out.tu.below (by omega) (by simp; omega))
        exact (hbw.cell h2).trans h1
      have HCELL := Lib.hid hcell
      clear hcell
      by_cases hlt : j < cs.length
      · have dl : decide (j < cs.length) = true := by simpa using hlt
        obtain ⟨ad, rfl, hk⟩ := HCELL.out hlt
        have hcy := HCB.out (cs.getD j 0) (by rw [List.getD_eq_getElem?_getD, List.getElem?_eq_getElem hlt]; exact List.getElem_mem hlt)
        generalize cs.getD j 0 = y at hk hcy
        go_wp2_with fail
        refine (pick_ok y _ wr hcy (by omega) (by omega)).mono ?_
        rintro e w' ⟨r, rfl, hr0, hr1, rfl⟩
        obtain ⟨m, rfl⟩ := Int.eq_ofNat_of_zero_le hr0
        go_upto_region 16 with (fail)
        have hma : at_ + m ≤ xs.length := by omega
        clear dl dj hk
        have hsw : w.heap.size ≤ wr.heap.size := Nat.le_trans HB5.out.size HS.out.tu.size
        obtain ⟨i5, hi5, hz5⟩ := info5'
        obtain ⟨A6, hrun, hread, hcap⟩ := print_mid_int (P := Try.prog) (k := .u8) 22 5 Try.underlying22 hi5 hz5 A c xs (at_ : Int) ((at_ : Int) + (m : Int)) (by omega) (by omega) (by omega) hc
        rw [show ((at_ : Int) + (m : Int)).toNat = at_ + m by omega, Int.toNat_natCast] at hrun hread hcap
        generalize hpc : (xs.take (at_ + m)).drop at_ = pc at hrun hread hcap
        have hpl : pc.length = m := by rw [← hpc, List.length_drop, List.length_take]; omega
        have HTK := Lib.hid (show xs.take (at_ + m) = xs.take at_ ++ pc by rw [← hpc]; exact take_piece xs at_ m)
        have HUP := Lib.hid (show u8s pc from fun x hx => hu x (by rw [← hpc] at hx; exact List.mem_of_mem_take (List.mem_of_mem_drop hx)))
        have HPL := Lib.hid hpl
        have hpl2 : pc.length ≤ 1048576 := by omega
        have HRDP := Lib.hid (BytesAt.of (hread (wr.alloc (.cells #[] 5)) (BytesAt.nums (BytesAt.below (B := 0) HX.out ((HB5.out.trans (HS.out.tu.below (B := w.heap.size) (by omega) (by simp; omega))).alloc hsw _)))))
        clear hread hcap hpc hpl hi5 hz5
        go_wp2_with (at_builtin; refine app_bytes (w0 := wr) wr.heap.size rfl (.tmp 67) (.tmp 73) rfl _ [] pc A6 pc.length (c - at_) (fun _ => True) rfl rfl (own_empty wr wr.heap.size _ (Nat.le_refl _) trivial) HRDP.out (fun _ _ => trivial) (ba _) (by simp) (by simp; omega) ?_; intro v6 w6 ho6 hb6 hg6 hat6; have HO6 := Lib.hid ho6; have HB6 := Lib.hid hb6; clear ho6 hb6 hg6 hat6)
        obtain ⟨A9, c9, hv9, hc9, hr9⟩ := Kd.R_reads HO6.out
        subst hv9
        have hs6 := HB6.out.size
        have hs5 := HS.out.tu.size
        generalize hr2 : feedS msgTab (ws ++ pc) = r2
        have hff2 := feed_facts (tab := msgTab) ((ws ++ pc).length + 1) (ws ++ pc) (by omega)
        obtain ⟨ms2, code2, ws2⟩ := r2
        rw [hr2, List.length_append] at hff2
        simp only at hff2
        have hm2 := hff2.1
        have HR2 := Lib.hid hr2
        clear hff2
        refine (feed_to w6 w2.heap.size w5.heap.size c9 wv ws pc A9 hr2 (Blk.below HS.out.dec HB6.out) (Kd.R_below HS.out.own HB6.out) (by omega) hr9 hc9 HUW.out HUP.out (by omega)).mono ?_
        clear hr2 hr9
        rintro e w7 ⟨A7, c7, B7, c7', rfl, hr7, hd7, ho7, ht7⟩
        have hrow := HS.out.row
        have hown := HS.out.own
        have hk7 : Kd.R k35 35 w7 w5.heap.size (fun q => some q ≠ (Value.slice B7 ws2.length c7').ownBlock) u10 (ks.map msgOf) :=
          Kd.R_mono (Kd.R_move (Kd.R_bound hrow) (fun k hk => (ht7.block k (by have := hk.2.2.1; omega) (fun hm => by
            simp only [List.mem_cons, Option.mem_toList] at hm
            rcases hm with hm | hm
            · have := hk.2.1; omega
            · exact hk.1 hm.symm)).trans (HB6.out.block k hk.2.2.1))) (fun k hk e => by
              have h1 := Kd.R_base ho7 k e.symm
              have h2 := hk.2.2.1
              omega)
        have hlt7 : ∀ q, u10.ownBlock = some q → q < w6.heap.size := fun q hq => by
          obtain ⟨inner, ho⟩ := Kd.R_own hrow
          have := own_lt ho q hq
          omega
        have hge7 : ∀ q, u10.ownBlock = some q → w5.heap.size ≤ q := fun q hq => Kd.R_base hrow q hq
        have hw7 : ∀ q, (Value.slice B7 ws2.length c7').ownBlock = some q → q < w7.heap.size := fun q hq => by
          obtain ⟨inner, ho⟩ := Kd.R_own ho7
          exact own_lt ho q hq
        have htu7 : Tu [w2.heap.size] w5 w7 := (HS.out.tu.trans (Tu.of_below HB6.out)).trans' ht7 (fun i hi => by
          simp only [List.mem_cons, Option.mem_toList] at hi
          rcases hi with hi | hi
          · exact .inl (by simp [hi])
          · exact .inr (Kd.R_base hown i hi))
        have hs7 := ht7.size
        have hbb7 : w5.heap.size ≤ w6.heap.size := by omega
        have hbs7 : w5.heap.size ≤ w7.heap.size := by omega
        have HL7 := Lib.hid (show ((ks.map msgOf).length + ms2.length) * 64 ≤ 140737488355328 by rw [List.length_map]; omega)
        have HK7 := Lib.hid hk7
        have HLT7 := Lib.hid hlt7
        have HGE7 := Lib.hid hge7
        have HW7 := Lib.hid hw7
        have HTU7 := Lib.hid htu7
        have HR7 := Lib.hid hr7
        have HD7 := Lib.hid hd7
        have HO7 := Lib.hid ho7
        clear hk7 hlt7 hge7 hw7 htu7 hr7 hd7 ho7 ht7 hrow hown
        go_wp2_with ((with_reducible refine gate_builtin (b := .append) (xs := #[.tmp 78, .tmp 79]) rfl ?_); at_builtin; refine app_rows (w0 := w7) w5.heap.size w6.heap.size rfl (.tmp 78) (.tmp 79) rfl u10 (.slice B7 ws2.length c7') (ks.map msgOf) (ms2.map msgOf) A7 ms2.length c7 rfl rfl HK7.out HLT7.out hbb7 HR7.out HW7.out (Below.refl _ _) hbs7 HL7.out ?_; intro v8 w8 hr8 hb8 hg8; have HR8 := Lib.hid hr8; have HG8 := Lib.hid hg8; clear hr8 hb8 hg8)
        refine ⟨⟨j + 1, at_ + m, code2, ks ++ ms2, _, ws2, by go_num, by go_num, rfl, by omega, by omega, Lib.hid (by omega), Lib.hid ⟨HTU7.out.grown HG8.out (fun k hk => .inr (HGE7.out k hk)), ?_, ?_, by rw [List.map_append]; exact HR8.out, ?_⟩⟩, by simp [intOf]; omega⟩
        · exact (HG8.out.block _ (Blk.lt HD7.out) (fun e => by have := HGE7.out _ e.symm; omega)).trans HD7.out
        · refine Kd.R_lower (Kd.R_mono (Kd.R_move (Kd.R_bound HO7.out) (fun k hk => HG8.out.block k hk.2.2.1 (fun e => ?_))) (fun _ _ => trivial)) (by omega)
          have h1 := HLT7.out k e.symm
          have h2 := hk.2.1
          omega
        · have h1 := (feed_app (tab := msgTab) ((xs.take at_).length + 1) (xs.take at_) pc (by omega)).1 (by rw [HS.out.eq])
          rw [HS.out.eq] at h1
          simp only at h1
          rw [HTK.out, h1, HR2.out]
      · have dl : decide (j < cs.length) = false := by simpa using hlt
        obtain ⟨m, hm⟩ := Int.eq_ofNat_of_zero_le (show (0 : Int) ≤ (xs.length : Int) - (at_ : Int) by omega)
        have hjc : j = cs.length := by omega
        go_upto_region 16 with (fail)
        have hma : at_ + m ≤ xs.length := by omega
        clear dl dj
        have hsw : w.heap.size ≤ wr.heap.size := Nat.le_trans HB5.out.size HS.out.tu.size
        obtain ⟨i5, hi5, hz5⟩ := info5'
        obtain ⟨A6, hrun, hread, hcap⟩ := print_mid_int (P := Try.prog) (k := .u8) 22 5 Try.underlying22 hi5 hz5 A c xs (at_ : Int) ((at_ : Int) + (m : Int)) (by omega) (by omega) (by omega) hc
        rw [show ((at_ : Int) + (m : Int)).toNat = at_ + m by omega, Int.toNat_natCast] at hrun hread hcap
        generalize hpc : (xs.take (at_ + m)).drop at_ = pc at hrun hread hcap
        have hpl : pc.length = m := by rw [← hpc, List.length_drop, List.length_take]; omega
        have HTK := Lib.hid (show xs.take (at_ + m) = xs.take at_ ++ pc by rw [← hpc]; exact take_piece xs at_ m)
        have HUP := Lib.hid (show u8s pc from fun x hx => hu x (by rw [← hpc] at hx; exact List.mem_of_mem_take (List.mem_of_mem_drop hx)))
        have HPL := Lib.hid hpl
        have hpl2 : pc.length ≤ 1048576 := by omega
        have HRDP := Lib.hid (BytesAt.of (hread (wr.alloc (.cells #[] 5)) (BytesAt.nums (BytesAt.below (B := 0) HX.out ((HB5.out.trans (HS.out.tu.below (B := w.heap.size) (by omega) (by simp; omega))).alloc hsw _)))))
        clear hread hcap hpc hpl hi5 hz5
        go_wp2_with (at_builtin; refine app_bytes (w0 := wr) wr.heap.size rfl (.tmp 67) (.tmp 73) rfl _ [] pc A6 pc.length (c - at_) (fun _ => True) rfl rfl (own_empty wr wr.heap.size _ (Nat.le_refl _) trivial) HRDP.out (fun _ _ => trivial) (ba _) (by simp) (by simp; omega) ?_; intro v6 w6 ho6 hb6 hg6 hat6; have HO6 := Lib.hid ho6; have HB6 := Lib.hid hb6; clear ho6 hb6 hg6 hat6)
        obtain ⟨A9, c9, hv9, hc9, hr9⟩ := Kd.R_reads HO6.out
        subst hv9
        have hs6 := HB6.out.size
        have hs5 := HS.out.tu.size
        generalize hr2 : feedS msgTab (ws ++ pc) = r2
        have hff2 := feed_facts (tab := msgTab) ((ws ++ pc).length + 1) (ws ++ pc) (by omega)
        obtain ⟨ms2, code2, ws2⟩ := r2
        rw [hr2, List.length_append] at hff2
        simp only at hff2
        have hm2 := hff2.1
        have HR2 := Lib.hid hr2
        clear hff2
        refine (feed_to w6 w2.heap.size w5.heap.size c9 wv ws pc A9 hr2 (Blk.below HS.out.dec HB6.out) (Kd.R_below HS.out.own HB6.out) (by omega) hr9 hc9 HUW.out HUP.out (by omega)).mono ?_
        clear hr2 hr9
        rintro e w7 ⟨A7, c7, B7, c7', rfl, hr7, hd7, ho7, ht7⟩
        have hrow := HS.out.row
        have hown := HS.out.own
        have hk7 : Kd.R k35 35 w7 w5.heap.size (fun q => some q ≠ (Value.slice B7 ws2.length c7').ownBlock) u10 (ks.map msgOf) :=
          Kd.R_mono (Kd.R_move (Kd.R_bound hrow) (fun k hk => (ht7.block k (by have := hk.2.2.1; omega) (fun hm => by
            simp only [List.mem_cons, Option.mem_toList] at hm
            rcases hm with hm | hm
            · have := hk.2.1; omega
            · exact hk.1 hm.symm)).trans (HB6.out.block k hk.2.2.1))) (fun k hk e => by
              have h1 := Kd.R_base ho7 k e.symm
              have h2 := hk.2.2.1
              omega)
        have hlt7 : ∀ q, u10.ownBlock = some q → q < w6.heap.size := fun q hq => by
          obtain ⟨inner, ho⟩ := Kd.R_own hrow
          have := own_lt ho q hq
          omega
        have hge7 : ∀ q, u10.ownBlock = some q → w5.heap.size ≤ q := fun q hq => Kd.R_base hrow q hq
        have hw7 : ∀ q, (Value.slice B7 ws2.length c7').ownBlock = some q → q < w7.heap.size := fun q hq => by
          obtain ⟨inner, ho⟩ := Kd.R_own ho7
          exact own_lt ho q hq
        have htu7 : Tu [w2.heap.size] w5 w7 := (HS.out.tu.trans (Tu.of_below HB6.out)).trans' ht7 (fun i hi => by
          simp only [List.mem_cons, Option.mem_toList] at hi
          rcases hi with hi | hi
          · exact .inl (by simp [hi])
          · exact .inr (Kd.R_base hown i hi))
        have hs7 := ht7.size
        have hbb7 : w5.heap.size ≤ w6.heap.size := by omega
        have hbs7 : w5.heap.size ≤ w7.heap.size := by omega
        have HL7 := Lib.hid (show ((ks.map msgOf).length + ms2.length) * 64 ≤ 140737488355328 by rw [List.length_map]; omega)
        have HK7 := Lib.hid hk7
        have HLT7 := Lib.hid hlt7
        have HGE7 := Lib.hid hge7
        have HW7 := Lib.hid hw7
        have HTU7 := Lib.hid htu7
        have HR7 := Lib.hid hr7
        have HD7 := Lib.hid hd7
        have HO7 := Lib.hid ho7
        clear hk7 hlt7 hge7 hw7 htu7 hr7 hd7 ho7 ht7 hrow hown
        go_wp2_with ((with_reducible refine gate_builtin (b := .append) (xs := #[.tmp 78, .tmp 79]) rfl ?_); at_builtin; refine app_rows (w0 := w7) w5.heap.size w6.heap.size rfl (.tmp 78) (.tmp 79) rfl u10 (.slice B7 ws2.length c7') (ks.map msgOf) (ms2.map msgOf) A7 ms2.length c7 rfl rfl HK7.out HLT7.out hbb7 HR7.out HW7.out (Below.refl _ _) hbs7 HL7.out ?_; intro v8 w8 hr8 hb8 hg8; have HR8 := Lib.hid hr8; have HG8 := Lib.hid hg8; clear hr8 hb8 hg8)
        refine ⟨⟨j + 1, at_ + m, code2, ks ++ ms2, _, ws2, by go_num, by go_num, rfl, by omega, by omega, Lib.hid (by omega), Lib.hid ⟨HTU7.out.grown HG8.out (fun k hk => .inr (HGE7.out k hk)), ?_, ?_, by rw [List.map_append]; exact HR8.out, ?_⟩⟩, by simp [intOf]; omega⟩
        · exact (HG8.out.block _ (Blk.lt HD7.out) (fun e => by have := HGE7.out _ e.symm; omega)).trans HD7.out
        · refine Kd.R_lower (Kd.R_mono (Kd.R_move (Kd.R_bound HO7.out) (fun k hk => HG8.out.block k hk.2.2.1 (fun e => ?_))) (fun _ _ => trivial)) (by omega)
          have h1 := HLT7.out k e.symm
          have h2 := hk.2.1
          omega
        · have h1 := (feed_app (tab := msgTab) ((xs.take at_).length + 1) (xs.take at_) pc (by omega)).1 (by rw [HS.out.eq])
          rw [HS.out.eq] at h1
          simp only at h1
          rw [HTK.out, h1, HR2.out]
    · have hend : feedS msgTab xs = (ks, fc, ws) := by
        by_cases h0 : fc = 0
        · have : at_ = xs.length := HEnd.out (by omega) h0
          rw [← HS.out.eq, this, List.take_length]
        · have h1 := (feed_app (tab := msgTab) ((xs.take at_).length + 1) (xs.take at_) (xs.drop at_) (by omega)).2 (by rw [HS.out.eq]; exact h0)
          rw [List.take_append_drop, HS.out.eq] at h1
          exact h1.2
      rw [HR.out] at hend
      simp only [Prod.mk.injEq] at hend
      obtain ⟨rfl, rfl, rfl⟩ := hend
      by_cases hj2 : j ≤ cs.length
      · have hc0 : code ≠ 0 := fun h => hgo ⟨hj2, h⟩
        have dj : decide (j ≤ cs.length) = true := by simpa using hj2
        have dc : (code == 0) = false := by rw [beq_eq_false_iff_ne]; exact hc0
        go_upto_region 20 with (fail)
        clear dj dc hc0
        have hdx := Blk.tu HD5.out HS.out.tu (by simp; omega)
        have hdy := HS.out.dec
        obtain ⟨B8, c9, hwv, _, _⟩ := Kd.R_reads HS.out.own
        subst hwv
        obtain ⟨A8, c8, hkv, hc8, hrk⟩ := Kd.R_reads HS.out.row
        subst hkv
        rw [List.length_map] at hrk
        have hlr : Kd.R k35 35 wr w4.heap.size (fun _ => True) (.slice A5 ms.length c5) (ms.map msgOf) :=
          Kd.R_mono (Kd.R_move (Kd.R_bound HL5.out) (fun k hk => HS.out.tu.block k hk.2.2.1 (by simp; have := hk.2.1; omega))) (fun _ _ => trivial)
        obtain ⟨A9, c10, hlv, _, hlc⟩ := Kd.R_reads hlr
        injection hlv with hl1 hl2 hl3
        clear hl2 hl3
        subst hl1
        rw [List.length_map] at hlc
        have HDX := Lib.hid hdx
        have HDY := Lib.hid hdy
        have HC1 := Lib.hid hlc
        have HC2 := Lib.hid hrk
        have HBW := Lib.hid (HB5.out.trans (HS.out.tu.below (B := w.heap.size) (by omega) (by simp; omega)))
        have hsw := HBW.out.size
        clear hdx hdy hlr hlc hrk hc8 HL5 HS HEnd
        simp only [List.length_map]
        go_wp2_with (first
          | (go_at_call 12; with_reducible refine (poisoned_ok wr w1.heap.size _ _ HDX.out).mono ?_; rintro e w' ⟨rfl, rfl⟩)
          | (go_at_call 12; with_reducible refine (poisoned_ok wr w2.heap.size _ _ HDY.out).mono ?_; rintro e w' ⟨rfl, rfl⟩)
          | (go_at_call 13; with_reducible refine (waiting_ok wr w1.heap.size _ _ _ _ HDX.out).mono ?_; rintro e w' ⟨rfl, rfl⟩)
          | (go_at_call 13; with_reducible refine (waiting_ok wr w2.heap.size _ _ _ _ HDY.out).mono ?_; rintro e w' ⟨rfl, rfl⟩))
        go_loopw [17] (fun i wq => ∃ t : Nat, t ≤ ms.length ∧ i = .int .i64 (t : Int) ∧ Hid (Below wr.heap.size wr wq)) (fun i _ => ms.length - (intOf i).toNat)
        case atStart => exact ⟨0, by omega, rfl, Lib.hid (Below.refl _ _)⟩
        case round =>
          rename_i wq
          obtain ⟨t, ht, rfl, HBq⟩ := hrel
          by_cases hlt : t < ms.length
          · have dt : decide ((t : Int) < (ms.length : Int)) = true := by simp; omega
            have hm1 := Kd.C_below HC1.out HBq.out
            have hm2 := Kd.C_below HC2.out HBq.out
            obtain ⟨ad, Ad, cd, rfl, k0, k1, k2, k3, k4, _, hrd⟩ := at_T35 hm1 (t : Int) (by omega) (by omega)
            obtain ⟨bd, Bd, dd, rfl, j0, j1, j2, j3, j4, _, hrd2⟩ := at_T35 hm2 (t : Int) (by omega) (by omega)
            have hrdM : rd_T35 (ms.map msgOf) (t : Int) = msgOf ms[t] := by
              unfold rd_T35
              rw [Int.toNat_natCast, List.getD_eq_getElem?_getD, List.getElem?_map, List.getElem?_eq_getElem hlt]
              rfl
            rw [hrdM] at k0 k1 k2 k3 k4 j0 j1 j2 j3 j4 hrd hrd2
            rw [Int.toNat_natCast] at k0 k1 k2 k3 k4 j0 j1 j2 j3 j4
            generalize hM : msgOf ms[t] = M at k0 k1 k2 k3 k4 j0 j1 j2 j3 j4 hrd hrd2
            have HRA := Lib.hid (BytesAt.below (B := 0) hrd (Below.drew (Below.refl _ _)))
            have HRB := Lib.hid (BytesAt.below (B := 0) hrd2 (Below.drew (Below.refl _ _)))
            have HK := Lib.hid (And.intro k0 (And.intro k1 (And.intro k2 (And.intro k3 (And.intro k4 (And.intro j0 (And.intro j1 (And.intro j2 (And.intro j3 j4)))))))))
            clear hrd hrd2 hm1 hm2 hrdM hM k0 k1 k2 k3 k4 j0 j1 j2 j3 j4
            go_wp2_with fail
            refine start_ (n := 10) (S := fun w' => w'.cell? (ad.add (t * 5)) = some (.int .i64 M.f0) ∧ w'.cell? ⟨(ad.add (t * 5)).block, (ad.add (t * 5)).off + 1, none⟩ = some (.int .i64 M.f1) ∧ w'.cell? ⟨(ad.add (t * 5)).block, (ad.add (t * 5)).off + 2, none⟩ = some (.string M.f2) ∧ w'.cell? ⟨(ad.add (t * 5)).block, (ad.add (t * 5)).off + 3, none⟩ = some (.int .i64 M.f3) ∧ w'.cell? ⟨(ad.add (t * 5)).block, (ad.add (t * 5)).off + 4, none⟩ = some (.slice Ad M.f4.length cd) ∧ w'.cell? (bd.add (t * 5)) = some (.int .i64 M.f0) ∧ w'.cell? ⟨(bd.add (t * 5)).block, (bd.add (t * 5)).off + 1, none⟩ = some (.int .i64 M.f1) ∧ w'.cell? ⟨(bd.add (t * 5)).block, (bd.add (t * 5)).off + 2, none⟩ = some (.string M.f2) ∧ w'.cell? ⟨(bd.add (t * 5)).block, (bd.add (t * 5)).off + 3, none⟩ = some (.int .i64 M.f3) ∧ w'.cell? ⟨(bd.add (t * 5)).block, (bd.add (t * 5)).off + 4, none⟩ = some (.slice Bd M.f4.length dd)) (ds := [8]) #[false, false, false, false, false, false, false, false, false, false] (by kernel_rfl) rfl rfl HK.out (fun hHeld => ?_)
            refine pure_ (i := 0) (N := some 122) (v := ?_) (a' := ?_) #[true, false, false, false, false, false, false, false, false, false] rfl rfl (by kernel_rfl) (fun _ _ _ h => h) (Or.inl ⟨by rfl, ?_⟩) ?_ ?_
            rotate_left
            · intro w'
              go_simp
              with_reducible rfl
            rotate_left
            · simp only [Act.put, List.setIfInBounds_toArray, List.set_cons_zero, List.set_cons_succ, i64_w, i32_w]
              rfl
            refine pure_ (i := 1) (N := some 123) (v := ?_) (a' := ?_) #[true, true, false, false, false, false, false, false, false, false] rfl rfl (by kernel_rfl) (fun _ _ _ h => h) (Or.inl ⟨by rfl, ?_⟩) ?_ ?_
            rotate_left
            · intro w'
              go_simp
              with_reducible rfl
            rotate_left
            · simp only [Act.put, List.setIfInBounds_toArray, List.set_cons_zero, List.set_cons_succ, i64_w, i32_w]
              rfl
            refine pure_ (i := 2) (N := some 124) (v := ?_) (a' := ?_) #[true, true, true, false, false, false, false, false, false, false] rfl rfl (by kernel_rfl) (fun _ _ _ h => h) (Or.inl ⟨by rfl, ?_⟩) ?_ ?_
            rotate_left
            · intro w'
              go_simp
              with_reducible rfl
            rotate_left
            · simp only [Act.put, List.setIfInBounds_toArray, List.set_cons_zero, List.set_cons_succ, i64_w, i32_w]
              rfl
            refine take_ (i := 3) (N := some 125) (v := ?_) (a' := ?_) #[true, true, true, true, false, false, false, false, false, false] rfl rfl (by kernel_rfl) (fun _ _ _ h => h) (Or.inl ⟨by rfl, ?_⟩) hHeld ?_ ?_
            rotate_left
            · intro w' s0
              go_simp
              with_reducible rfl
            rotate_left
            · simp only [Act.put, List.setIfInBounds_toArray, List.set_cons_zero, List.set_cons_succ, i64_w, i32_w]
              rfl
            refine pure_ (i := 4) (N := some 126) (v := ?_) (a' := ?_) #[true, true, true, true, true, false, false, false, false, false] rfl rfl (by kernel_rfl) (fun _ _ _ h => h) (Or.inl ⟨by rfl, ?_⟩) ?_ ?_
            rotate_left
            · intro w'
              go_simp
              with_reducible rfl
            rotate_left
            · simp only [Act.put, List.setIfInBounds_toArray, List.set_cons_zero, List.set_cons_succ, i64_w, i32_w]
              rfl
            refine pure_ (i := 5) (N := some 127) (v := ?_) (a' := ?_) #[true, true, true, true, true, true, false, false, false, false] rfl rfl (by kernel_rfl) (fun _ _ _ h => h) (Or.inl ⟨by rfl, ?_⟩) ?_ ?_
            rotate_left
            · intro w'
              go_simp
              with_reducible rfl
            rotate_left
            · simp only [Act.put, List.setIfInBounds_toArray, List.set_cons_zero, List.set_cons_succ, i64_w, i32_w]
              rfl
            refine pure_ (i := 6) (N := some 128) (v := ?_) (a' := ?_) #[true, true, true, true, true, true, true, false, false, false] rfl rfl (by kernel_rfl) (fun _ _ _ h => h) (Or.inl ⟨by rfl, ?_⟩) ?_ ?_
            rotate_left
            · intro w'
              go_simp
              with_reducible rfl
            rotate_left
            · simp only [Act.put, List.setIfInBounds_toArray, List.set_cons_zero, List.set_cons_succ, i64_w, i32_w]
              rfl
            refine take_ (i := 7) (N := some 129) (v := ?_) (a' := ?_) #[true, true, true, true, true, true, true, true, false, false] rfl rfl (by kernel_rfl) (fun _ _ _ h => h) (Or.inl ⟨by rfl, ?_⟩) hHeld ?_ ?_
            rotate_left
            · intro w' s0
              go_simp
              with_reducible rfl
            rotate_left
            · simp only [Act.put, List.setIfInBounds_toArray, List.set_cons_zero, List.set_cons_succ, i64_w, i32_w]
              rfl
            refine last_ (i := 8) (N := some 130) #[true, true, true, true, true, true, true, true, true, false] rfl rfl (by kernel_rfl) (by decide) (fun K hK => ?_)
            refine goesV #[] Try.func14 (by kernel_rfl) rfl #[.agg #[.int .i64 M.f0, .int .i64 M.f1, .string M.f2, .int .i64 M.f3, .slice Ad M.f4.length cd], .agg #[.int .i64 M.f0, .int .i64 M.f1, .string M.f2, .int .i64 M.f3, .slice Bd M.f4.length dd]] (by rfl) rfl rfl rfl (by simp [Act.eval]) ?_
            refine Calls.mono (same_yes M Ad Bd _ _ cd dd _ HRA.out HRB.out) ?_
            rintro e w9 ⟨rfl, hb9⟩
            have HB9 := Lib.hid (HBq.out.trans ((Below.trans (Below.drew (Below.refl _ _)) (hb9.mono (Nat.le_refl _))).mono HBq.out.size))
            clear hb9
            refine .inl ⟨_, rfl, ?_⟩
            refine hK.out _ _ ?_
            clear hK K
            refine norm_ (a' := ?_) ?_ ?_
            rotate_left
            · show Act.put _ (some 130) _ = _
              simp only [Act.put, List.setIfInBounds_toArray, List.set_cons_zero, List.set_cons_succ, i64_w, i32_w]
              rfl
            refine pure_ (i := 9) (N := some 18) (v := ?_) (a' := ?_) #[true, true, true, true, true, true, true, true, true, true] rfl rfl (by kernel_rfl) (fun _ _ _ h => h) (Or.inl ⟨by rfl, ?_⟩) ?_ ?_
            rotate_left
            · intro w'
              go_simp
              with_reducible rfl
            rotate_left
            · simp only [Act.put, List.setIfInBounds_toArray, List.set_cons_zero, List.set_cons_succ, i64_w, i32_w]
              rfl
            refine done_ (by kernel_rfl) ?_
            go_wp2_with fail
            exact ⟨⟨t + 1, by omega, by go_num, HB9⟩, by simp [intOf]; omega⟩
          · have dt : decide ((t : Int) < (ms.length : Int)) = false := by simp; omega
            go_wp2_with fail
            go_ret
            exact ⟨rfl, HBW.out.trans (HBq.out.mono hsw)⟩
      · have dj : decide (j ≤ cs.length) = false := by simpa using hj2
        go_upto_region 20 with (fail)
        clear dj
        have hdx := Blk.tu HD5.out HS.out.tu (by simp; omega)
        have hdy := HS.out.dec
        obtain ⟨B8, c9, hwv, _, _⟩ := Kd.R_reads HS.out.own
        subst hwv
        obtain ⟨A8, c8, hkv, hc8, hrk⟩ := Kd.R_reads HS.out.row
        subst hkv
        rw [List.length_map] at hrk
        have hlr : Kd.R k35 35 wr w4.heap.size (fun _ => True) (.slice A5 ms.length c5) (ms.map msgOf) :=
          Kd.R_mono (Kd.R_move (Kd.R_bound HL5.out) (fun k hk => HS.out.tu.block k hk.2.2.1 (by simp; have := hk.2.1; omega))) (fun _ _ => trivial)
        obtain ⟨A9, c10, hlv, _, hlc⟩ := Kd.R_reads hlr
        injection hlv with hl1 hl2 hl3
        clear hl2 hl3
        subst hl1
        rw [List.length_map] at hlc
        have HDX := Lib.hid hdx
        have HDY := Lib.hid hdy
        have HC1 := Lib.hid hlc
        have HC2 := Lib.hid hrk
        have HBW := Lib.hid (HB5.out.trans (HS.out.tu.below (B := w.heap.size) (by omega) (by simp; omega)))
        have hsw := HBW.out.size
        clear hdx hdy hlr hlc hrk hc8 HL5 HS HEnd
        simp only [List.length_map]
        go_wp2_with (first
          | (go_at_call 12; with_reducible refine (poisoned_ok wr w1.heap.size _ _ HDX.out).mono ?_; rintro e w' ⟨rfl, rfl⟩)
          | (go_at_call 12; with_reducible refine (poisoned_ok wr w2.heap.size _ _ HDY.out).mono ?_; rintro e w' ⟨rfl, rfl⟩)
          | (go_at_call 13; with_reducible refine (waiting_ok wr w1.heap.size _ _ _ _ HDX.out).mono ?_; rintro e w' ⟨rfl, rfl⟩)
          | (go_at_call 13; with_reducible refine (waiting_ok wr w2.heap.size _ _ _ _ HDY.out).mono ?_; rintro e w' ⟨rfl, rfl⟩))
        go_loopw [17] (fun i wq => ∃ t : Nat, t ≤ ms.length ∧ i = .int .i64 (t : Int) ∧ Hid (Below wr.heap.size wr wq)) (fun i _ => ms.length - (intOf i).toNat)
        case atStart => exact ⟨0, by omega, rfl, Lib.hid (Below.refl _ _)⟩
        case round =>
          rename_i wq
          obtain ⟨t, ht, rfl, HBq⟩ := hrel
          by_cases hlt : t < ms.length
          · have dt : decide ((t : Int) < (ms.length : Int)) = true := by simp; omega
            have hm1 := Kd.C_below HC1.out HBq.out
            have hm2 := Kd.C_below HC2.out HBq.out
            obtain ⟨ad, Ad, cd, rfl, k0, k1, k2, k3, k4, _, hrd⟩ := at_T35 hm1 (t : Int) (by omega) (by omega)
            obtain ⟨bd, Bd, dd, rfl, j0, j1, j2, j3, j4, _, hrd2⟩ := at_T35 hm2 (t : Int) (by omega) (by omega)
            have hrdM : rd_T35 (ms.map msgOf) (t : Int) = msgOf ms[t] := by
              unfold rd_T35
              rw [Int.toNat_natCast, List.getD_eq_getElem?_getD, List.getElem?_map, List.getElem?_eq_getElem hlt]
              rfl
            rw [hrdM] at k0 k1 k2 k3 k4 j0 j1 j2 j3 j4 hrd hrd2
            rw [Int.toNat_natCast] at k0 k1 k2 k3 k4 j0 j1 j2 j3 j4
            generalize hM : msgOf ms[t] = M at k0 k1 k2 k3 k4 j0 j1 j2 j3 j4 hrd hrd2
            have HRA := Lib.hid (BytesAt.below (B := 0) hrd (Below.drew (Below.refl _ _)))
            have HRB := Lib.hid (BytesAt.below (B := 0) hrd2 (Below.drew (Below.refl _ _)))
            have HK := Lib.hid (And.intro k0 (And.intro k1 (And.intro k2 (And.intro k3 (And.intro k4 (And.intro j0 (And.intro j1 (And.intro j2 (And.intro j3 j4)))))))))
            clear hrd hrd2 hm1 hm2 hrdM hM k0 k1 k2 k3 k4 j0 j1 j2 j3 j4
            go_wp2_with fail
            refine start_ (n := 10) (S := fun w' => w'.cell? (ad.add (t * 5)) = some (.int .i64 M.f0) ∧ w'.cell? ⟨(ad.add (t * 5)).block, (ad.add (t * 5)).off + 1, none⟩ = some (.int .i64 M.f1) ∧ w'.cell? ⟨(ad.add (t * 5)).block, (ad.add (t * 5)).off + 2, none⟩ = some (.string M.f2) ∧ w'.cell? ⟨(ad.add (t * 5)).block, (ad.add (t * 5)).off + 3, none⟩ = some (.int .i64 M.f3) ∧ w'.cell? ⟨(ad.add (t * 5)).block, (ad.add (t * 5)).off + 4, none⟩ = some (.slice Ad M.f4.length cd) ∧ w'.cell? (bd.add (t * 5)) = some (.int .i64 M.f0) ∧ w'.cell? ⟨(bd.add (t * 5)).block, (bd.add (t * 5)).off + 1, none⟩ = some (.int .i64 M.f1) ∧ w'.cell? ⟨(bd.add (t * 5)).block, (bd.add (t * 5)).off + 2, none⟩ = some (.string M.f2) ∧ w'.cell? ⟨(bd.add (t * 5)).block, (bd.add (t * 5)).off + 3, none⟩ = some (.int .i64 M.f3) ∧ w'.cell? ⟨(bd.add (t * 5)).block, (bd.add (t * 5)).off + 4, none⟩ = some (.slice Bd M.f4.length dd)) (ds := [8]) #[false, false, false, false, false, false, false, false, false, false] (by kernel_rfl) rfl rfl HK.out (fun hHeld => ?_)
            refine pure_ (i := 0) (N := some 122) (v := ?_) (a' := ?_) #[true, false, false, false, false, false, false, false, false, false] rfl rfl (by kernel_rfl) (fun _ _ _ h => h) (Or.inl ⟨by rfl, ?_⟩) ?_ ?_
            rotate_left
            · intro w'
              go_simp
              with_reducible rfl
            rotate_left
            · simp only [Act.put, List.setIfInBounds_toArray, List.set_cons_zero, List.set_cons_succ, i64_w, i32_w]
              rfl
            refine pure_ (i := 1) (N := some 123) (v := ?_) (a' := ?_) #[true, true, false, false, false, false, false, false, false, false] rfl rfl (by kernel_rfl) (fun _ _ _ h => h) (Or.inl ⟨by rfl, ?_⟩) ?_ ?_
            rotate_left
            · intro w'
              go_simp
              with_reducible rfl
            rotate_left
            · simp only [Act.put, List.setIfInBounds_toArray, List.set_cons_zero, List.set_cons_succ, i64_w, i32_w]
              rfl
            refine pure_ (i := 2) (N := some 124) (v := ?_) (a' := ?_) #[true, true, true, false, false, false, false, false, false, false] rfl rfl (by kernel_rfl) (fun _ _ _ h => h) (Or.inl ⟨by rfl, ?_⟩) ?_ ?_
            rotate_left
            · intro w'
              go_simp
              with_reducible rfl
            rotate_left
            · simp only [Act.put, List.setIfInBounds_toArray, List.set_cons_zero, List.set_cons_succ, i64_w, i32_w]
              rfl
            refine take_ (i := 3) (N := some 125) (v := ?_) (a' := ?_) #[true, true, true, true, false, false, false, false, false, false] rfl rfl (by kernel_rfl) (fun _ _ _ h => h) (Or.inl ⟨by rfl, ?_⟩) hHeld ?_ ?_
            rotate_left
            · intro w' s0
              go_simp
              with_reducible rfl
            rotate_left
            · simp only [Act.put, List.setIfInBounds_toArray, List.set_cons_zero, List.set_cons_succ, i64_w, i32_w]
              rfl
            refine pure_ (i := 4) (N := some 126) (v := ?_) (a' := ?_) #[true, true, true, true, true, false, false, false, false, false] rfl rfl (by kernel_rfl) (fun _ _ _ h => h) (Or.inl ⟨by rfl, ?_⟩) ?_ ?_
            rotate_left
            · intro w'
              go_simp
              with_reducible rfl
            rotate_left
            · simp only [Act.put, List.setIfInBounds_toArray, List.set_cons_zero, List.set_cons_succ, i64_w, i32_w]
              rfl
            refine pure_ (i := 5) (N := some 127) (v := ?_) (a' := ?_) #[true, true, true, true, true, true, false, false, false, false] rfl rfl (by kernel_rfl) (fun _ _ _ h => h) (Or.inl ⟨by rfl, ?_⟩) ?_ ?_
            rotate_left
            · intro w'
              go_simp
              with_reducible rfl
            rotate_left
            · simp only [Act.put, List.setIfInBounds_toArray, List.set_cons_zero, List.set_cons_succ, i64_w, i32_w]
              rfl
            refine pure_ (i := 6) (N := some 128) (v := ?_) (a' := ?_) #[true, true, true, true, true, true, true, false, false, false] rfl rfl (by kernel_rfl) (fun _ _ _ h => h) (Or.inl ⟨by rfl, ?_⟩) ?_ ?_
            rotate_left
            · intro w'
              go_simp
              with_reducible rfl
            rotate_left
            · simp only [Act.put, List.setIfInBounds_toArray, List.set_cons_zero, List.set_cons_succ, i64_w, i32_w]
              rfl
            refine take_ (i := 7) (N := some 129) (v := ?_) (a' := ?_) #[true, true, true, true, true, true, true, true, false, false] rfl rfl (by kernel_rfl) (fun _ _ _ h => h) (Or.inl ⟨by rfl, ?_⟩) hHeld ?_ ?_
            rotate_left
            · intro w' s0
              go_simp
              with_reducible rfl
            rotate_left
            · simp only [Act.put, List.setIfInBounds_toArray, List.set_cons_zero, List.set_cons_succ, i64_w, i32_w]
              rfl
            refine last_ (i := 8) (N := some 130) #[true, true, true, true, true, true, true, true, true, false] rfl rfl (by kernel_rfl) (by decide) (fun K hK => ?_)
            refine goesV #[] Try.func14 (by kernel_rfl) rfl #[.agg #[.int .i64 M.f0, .int .i64 M.f1, .string M.f2, .int .i64 M.f3, .slice Ad M.f4.length cd], .agg #[.int .i64 M.f0, .int .i64 M.f1, .string M.f2, .int .i64 M.f3, .slice Bd M.f4.length dd]] (by rfl) rfl rfl rfl (by simp [Act.eval]) ?_
            refine Calls.mono (same_yes M Ad Bd _ _ cd dd _ HRA.out HRB.out) ?_
            rintro e w9 ⟨rfl, hb9⟩
            have HB9 := Lib.hid (HBq.out.trans ((Below.trans (Below.drew (Below.refl _ _)) (hb9.mono (Nat.le_refl _))).mono HBq.out.size))
            clear hb9
            refine .inl ⟨_, rfl, ?_⟩
            refine hK.out _ _ ?_
            clear hK K
            refine norm_ (a' := ?_) ?_ ?_
            rotate_left
            · show Act.put _ (some 130) _ = _
              simp only [Act.put, List.setIfInBounds_toArray, List.set_cons_zero, List.set_cons_succ, i64_w, i32_w]
              rfl
            refine pure_ (i := 9) (N := some 18) (v := ?_) (a' := ?_) #[true, true, true, true, true, true, true, true, true, true] rfl rfl (by kernel_rfl) (fun _ _ _ h => h) (Or.inl ⟨by rfl, ?_⟩) ?_ ?_
            rotate_left
            · intro w'
              go_simp
              with_reducible rfl
            rotate_left
            · simp only [Act.put, List.setIfInBounds_toArray, List.set_cons_zero, List.set_cons_succ, i64_w, i32_w]
              rfl
            refine done_ (by kernel_rfl) ?_
            go_wp2_with fail
            exact ⟨⟨t + 1, by omega, by go_num, HB9⟩, by simp [intOf]; omega⟩
          · have dt : decide ((t : Int) < (ms.length : Int)) = false := by simp; omega
            go_wp2_with fail
            go_ret
            exact ⟨rfl, HBW.out.trans (HBq.out.mono hsw)⟩
end Go.Proofs.Ytpflenaoplblkaa.ProY
