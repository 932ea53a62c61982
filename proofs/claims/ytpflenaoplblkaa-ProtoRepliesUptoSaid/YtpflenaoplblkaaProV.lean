import Derived.Test.YtpflenaoplblkaaProT
import Derived.Test.YtpflenaoplblkaaProU
namespace Go.Proofs.Ytpflenaoplblkaa.ProV
open Go.RowKit Go.Proofs.YtpflenaoplblkaaW.PrintWords Go.Proofs.YtpflenaoplblkaaW.PrintLast Go.Proofs.Ytpflenaoplblkaa.ProA Go.Proofs.Ytpflenaoplblkaa.ProB Go.Proofs.Ytpflenaoplblkaa.ProC Go.Proofs.Ytpflenaoplblkaa.ProI Go.Proofs.Ytpflenaoplblkaa.ProD Go.Proofs.Ytpflenaoplblkaa.ProE Go.Proofs.Ytpflenaoplblkaa.ProF Go.Proofs.Ytpflenaoplblkaa.ProG Go.Proofs.Ytpflenaoplblkaa.ProH Go.Proofs.Ytpflenaoplblkaa.ProJ Go.Proofs.Ytpflenaoplblkaa.ProK Go.Proofs.Ytpflenaoplblkaa.ProL Go.Proofs.Ytpflenaoplblkaa.ProM Go.Proofs.Ytpflenaoplblkaa.ProN Go.Proofs.Ytpflenaoplblkaa.ProO Go.Proofs.Ytpflenaoplblkaa.ProP Go.Proofs.Ytpflenaoplblkaa.ProQ Go.Proofs.Ytpflenaoplblkaa.ProR Go.Proofs.Ytpflenaoplblkaa.ProS Go.Proofs.Ytpflenaoplblkaa.ProT Go.Proofs.Ytpflenaoplblkaa.ProU
set_option linter.unusedVariables false
set_option linter.unusedSimpArgs false
theorem encAll_take (l : List Flds) (i : Nat) (h : i < l.length) (bs : List Int) (hb : encS msgTab l[i] = .ok bs) : encAll (l.take (i + 1)) = encAll (l.take i) ++ bs := by
  rw [List.take_succ_eq_append_getElem h]
  simp only [encAll, List.map_append, List.flatten_append, List.map_cons, List.map_nil, List.flatten_cons, List.flatten_nil, List.append_nil]
  rw [hb]
theorem encAll_pre (l : List Flds) (i : Nat) : (encAll (l.take i)).length ≤ (encAll l).length := by
  conv => rhs; rw [← List.take_append_drop i l]
  simp only [encAll, List.map_append, List.flatten_append, List.length_append]
  omega
theorem enc_data' (ps : List PS) : ∀ (F : Flds) (body : List Int), encParts ps F = some body → 4 ∈ ps.map fdOf → F.data.length ≤ body.length := by
  induction ps with
  | nil => intro F body _ h; cases h
  | cons p ps ih =>
    intro F body h hm
    simp only [encParts] at h
    split at h
    · rw [Option.map_eq_some_iff] at h
      obtain ⟨b2, h2, rfl⟩ := h
      rw [List.map_cons, List.mem_cons] at hm
      rw [List.length_append]
      rcases hm with hm | hm
      · cases p with
        | num o _ _ _ => cases o <;> simp [fdOf] at hm
        | name => simp [fdOf] at hm
        | blob hi => simp only [wrS, List.length_append]; omega
      · have := ih F b2 h2 hm
        omega
    · cases h
theorem clAll_same (ps : List PS) : ∀ (F : Flds) (f : Nat), f ≤ 4 → f ∉ ps.map fdOf → SameF f (clAll ps F) F := by
  induction ps with
  | nil => intro F f _ _; exact SameF.refl f F
  | cons p ps ih =>
    intro F f hl h
    rw [List.map_cons, List.mem_cons, not_or] at h
    show SameF f (clAll ps (clS p F)) F
    exact (ih (clS p F) f hl h.2).trans (cl_other p F f hl h.1)
theorem enc_data {tab : List (List PS)} {F : Flds} {bs : List Int} (h : encS tab F = .ok bs) : F.data.length ≤ bs.length ∧ 5 ≤ bs.length := by
  unfold encS at h
  split at h
  · cases h
  split at h
  · cases h
  · rename_i ps _
    split at h
    · cases h
    · rename_i body hb
      split at h
      · rename_i he
        injection h with h
        subst h
        have hlen : (beB (((F.kind :: body).length : Nat) : Int) 4 ++ F.kind :: body).length = 5 + body.length := by rw [List.length_append, beB_len, List.length_cons]; omega
        rw [hlen]
        refine ⟨?_, by omega⟩
        by_cases hm : 4 ∈ ps.map fdOf
        · have := enc_data' ps F body hb hm
          omega
        · have hs : (clAll ps F).data = F.data := clAll_same ps F 4 (by omega) hm
          simp only [emptyB, Bool.and_eq_true, decide_eq_true_eq] at he
          have := he.2
          rw [hs] at this
          omega
      · cases h
theorem encAll_len (l : List Flds) (h : ∀ F ∈ l, ∃ bs, encS msgTab F = .ok bs) : l.length ≤ (encAll l).length := by
  induction l with
  | nil => simp
  | cons F l ih =>
    obtain ⟨bs, hb⟩ := h F (by simp)
    have h5 := (enc_data hb).2
    have := ih (fun G hG => h G (by simp [hG]))
    have hc : encAll (F :: l) = bs ++ encAll l := by
      simp only [encAll, List.map_cons, List.flatten_cons]
      rw [hb]
    rw [hc, List.length_append, List.length_cons]
    omega
/-- bytes as text -/
theorem conv_str {w : World} {A : Option Addr} {n c : Nat} {xs : List Int} (h : BytesAt w A n xs) : (convert 22 9 (.slice A n c)).run Try.prog w = .ok (.string (strOfNums xs)) w := Kd.C_string Try.underlying22 Try.underlying5 Try.underlying9 h
set_option maxHeartbeats 4000000 in
set_option maxRecDepth 100000 in
theorem same_walk (A : Option Addr) (c : Nat) (xs : List Int) (w : World) (hx : BytesAt w A xs.length xs) (hc : xs.length ≤ c) (hu : u8s xs) (hn : xs.length ≤ 1048576) :
    Calls Try.prog 5 #[.slice A xs.length c] w fun e w' => e = .returned (.bool true) ∧ Below w.heap.size w w' := by
  obtain ⟨hfe1, hfe2, hfe3⟩ := feed_enc (xs.length + 1) xs (by omega) hu
  generalize hr : feedS msgTab xs = r at hfe1 hfe2 hfe3
  obtain ⟨ms, code, rest⟩ := r
  simp only at hfe1 hfe2 hfe3
  have HFE1 := Lib.hid hfe1
  have HFE2 := Lib.hid hfe2
  have HFE3 := Lib.hid hfe3
  have HR := Lib.hid hr
  have HX := Lib.hid hx
  clear hfe1 hfe2 hfe3 hr hx
  go_enter Try.func5, Try.ntmps5
  go_wp2_with fail
  refine (fed_ok w).mono ?_
  rintro e w1 ⟨rfl, hb1⟩
  have HB1 := Lib.hid hb1
  clear hb1
  go_wp2_with fail
  refine (new_ok w1).mono ?_
  rintro e w2 ⟨rfl, hw2⟩
  have HD2 := Lib.hid (show Blk w2 w1.heap.size #[.slice none 0 0, .bool false] 67 by rw [← hw2]; exact blkNew rfl)
  have HB2 := Lib.hid (show Below w1.heap.size w1 w2 by rw [← hw2]; exact ba _)
  clear hw2
  have hs12 := HB1.out.size
  have hs23 := HB2.out.size
  go_wp2_with (at_builtin; refine app_bytes (w0 := w2) w2.heap.size rfl (.tmp 22) (.tmp 23) rfl _ [] xs A xs.length c (fun _ => True) rfl rfl (own_empty w2 w2.heap.size _ (Nat.le_refl _) trivial) (BytesAt.below (B := 0) (BytesAt.below (B := 0) (BytesAt.below (B := 0) HX.out HB1.out) HB2.out) (ba _)) (fun _ _ => trivial) (ba _) (by simp) (by simp; omega) ?_; intro v1 w3 ho hb hg hat; have HO3 := Lib.hid ho; have HB3 := Lib.hid hb; clear ho hb hg hat)
  obtain ⟨A3, c3, hv3, hc3, hr3⟩ := Kd.R_reads HO3.out
  subst hv3
  have HD3 := Lib.hid (Blk.below HD2.out HB3.out)
  have hs34 := HB3.out.size
  refine (feed_to w3 w1.heap.size 0 c3 (.slice none 0 0) [] xs A3 HR.out HD3.out (Kd.R_nil _ _ _ _ _) (by omega) hr3 hc3 u8n hu (by simp; omega)).mono ?_
  rintro e w4 ⟨A4, c4, B4, c4', rfl, hr4, hd4, ho4, ht4⟩
  have hb4 : Below w.heap.size w w4 := (HB1.out.trans ((HB2.out.trans (HB3.out.mono hs23)).mono hs12)).trans (tu_below (h := w.heap.size) ht4 (Kd.R_nil (Kd.int .u8) 5 w4 w.heap.size (fun _ => True)) (Nat.le_refl _) hs12 (by omega))
  obtain ⟨A5, c5, hv5, hc5, hm4⟩ := Kd.R_reads hr4
  injection hv5 with hv5 hl5 hv5c
  clear hl5
  subst hv5
  subst hv5c
  rw [List.length_map] at hm4
  have HM4 := Lib.hid hm4
  have HD4 := Lib.hid hd4
  have HB4 := Lib.hid hb4
  have hs4 := hb4.size
  clear hr3 hr4 hd4 ho4 ht4 hb4 hm4 HD2 HD3 HB2 HB3 HO3 HB1 hc5
  have hall : (encAll ms).length ≤ xs.length := by
    obtain ⟨r, h3⟩ := HFE3.out
    rw [h3, List.length_append]
    omega
  have hml : ms.length ≤ xs.length := Nat.le_trans (encAll_len ms (fun F hF => by obtain ⟨bs, h1, _⟩ := HFE1.out F hF; exact ⟨bs, h1⟩)) hall
  go_wp2_with fail
  go_loopw [7, 8] (fun l t wr => ∃ i : Nat, i ≤ ms.length ∧ t = .int .i64 (i : Int) ∧ Hid (Below w4.heap.size w4 wr) ∧ Hid (Own wr w4.heap.size (fun _ => True) l (encAll (ms.take i)))) (fun _ t _ => ms.length - (intOf t).toNat)
  case atStart => exact ⟨0, by omega, rfl, Lib.hid (Below.refl _ _), Lib.hid (Kd.R_nil _ _ _ _ _)⟩
  case round =>
    obtain ⟨i, hi, rfl, HBr, HOr⟩ := hrel
    by_cases hlt : i < ms.length
    · have dl : decide ((i : Int) < (ms.length : Int)) = true := by simp; omega
      obtain ⟨bs, he1, he2⟩ := HFE1.out ms[i] (List.getElem_mem hlt)
      have hmr := Kd.C_below HM4.out HBr.out
      obtain ⟨ad, Ad, cd, rfl, k0, k1, k2, k3, k4, hcd, hrd⟩ := at_T35 hmr (i : Int) (by omega) (by omega)
      have hrdM : rd_T35 (ms.map msgOf) (i : Int) = msgOf ms[i] := by
        unfold rd_T35
        rw [Int.toNat_natCast, List.getD_eq_getElem?_getD, List.getElem?_map, List.getElem?_eq_getElem hlt]
        rfl
      rw [hrdM] at k0 k1 k2 k3 k4 hcd hrd
      rw [Int.toNat_natCast] at k0 k1 k2 k3 k4
      have HRDD := Lib.hid hrd
      have HE1 := Lib.hid he1
      have HE2 := Lib.hid he2
      have hlenb := encAll_pre ms (i + 1)
      rw [encAll_take ms i hlt bs he1, List.length_append] at hlenb
      have hdl := (enc_data he1).1
      have hd2 : (msgOf ms[i]).f4.length ≤ 1000000000 := by
        show ms[i].data.length ≤ _
        omega
      clear hrd he1 he2 hmr hrdM
      go_wp2_with fail
      have henc := Encode_ok (msgOf ms[i]) Ad _ cd wr HRDD.out hd2
      rw [HE2.out, HE1.out] at henc
      refine henc.mono ?_
      rintro e w5 ⟨v5, code5, rfl, hb5, rfl, ho5⟩
      obtain ⟨A6, c6, hv6, hc6, hr6⟩ := Kd.R_reads ho5
      subst hv6
      have HO5 := Lib.hid (Kd.R_below HOr.out hb5)
      have HR6 := Lib.hid hr6
      have HB5 := Lib.hid (HBr.out.trans (hb5.mono HBr.out.size))
      clear henc ho5 hr6 hb5 hc6 hd2 hdl
      go_wp2_with (at_builtin; refine app_bytes (w0 := w4) w4.heap.size rfl (.tmp 44) (.tmp 45) rfl u7 _ bs A6 bs.length c6 (fun _ => True) rfl rfl HO5.out HR6.out (fun _ _ => trivial) HB5.out HB5.out.size (by omega) ?_; intro v7 w7 ho7 hb7 hg7 hat7; have HO7 := Lib.hid ho7; have HB7 := Lib.hid hb7; clear ho7 hb7 hg7 hat7)
      refine ⟨⟨i + 1, by omega, by go_num, HB7, Lib.hid ?_⟩, by simp [intOf]; omega⟩
      rw [encAll_take ms i hlt bs HE1.out]
      exact HO7.out
    · have hii : i = ms.length := by omega
      have dl : decide ((i : Int) < (ms.length : Int)) = false := by simp; omega
      have htk : ms.take i = ms := by rw [hii, List.take_length]
      have ho := HOr.out
      rw [htk] at ho
      obtain ⟨A8, c8, hv8, hc8, hr8⟩ := Kd.R_reads ho
      subst hv8
      generalize hN : (encAll ms).length = N at hall hc8 hr8
      have dN : decide ((N : Int) > (xs.length : Int)) = false := by simp; omega
      have dN2 : decide (xs.length < N) = false := by simp; omega
      have hpre : xs.take N = encAll ms := by
        obtain ⟨r, h3⟩ := HFE3.out
        rw [h3, ← hN, List.take_left']
        rfl
      obtain ⟨i5, hi5, hz5⟩ := info5'
      obtain ⟨hrun, hread, hcap⟩ := print_take_int (P := Try.prog) (k := .u8) 22 5 Try.underlying22 hi5 hz5 A c xs (N : Int) (by omega) (by omega) hc
      rw [Int.toNat_natCast] at hrun hread
      have hxr : BytesAt wr A xs.length xs := BytesAt.below (B := 0) (BytesAt.below (B := 0) HX.out HB4.out) HBr.out
      have hq1 := conv_str (c := c8) (BytesAt.below (B := 0) hr8 (Below.drew (Below.refl _ _)))
      have hq2 := conv_str (c := c) (BytesAt.of (hread wr.drew (BytesAt.nums (BytesAt.below (B := 0) hxr (Below.drew (Below.refl _ _))))))
      rw [hpre] at hrun hread hq2
      rw [hN] at hrun hq2
      have HQ1 := Lib.hid hq1
      have HQ2 := Lib.hid hq2
      have HBE := Lib.hid (HB4.out.trans (HBr.out.mono hs4))
      have HDE := Lib.hid (Blk.below HD4.out HBr.out)
      have HN := Lib.hid hN
      clear HOr ho hr8 hread hxr hq1 hq2 hpre htk hii hN
      go_wp2_with fail
      refine start_ (n := 13) (S := fun w' => (convert 22 9 (.slice A8 N c8)).run Try.prog w' = .ok (.string (strOfNums (encAll ms))) w' ∧ (convert 22 9 (.slice A N c)).run Try.prog w' = .ok (.string (strOfNums (encAll ms))) w') (ds := []) #[false, false, false, false, false, false, false, false, false, false, false, false, false] (by kernel_rfl) rfl rfl ⟨HQ1.out, HQ2.out⟩ (fun hHeld => ?_)
      refine pure_ (i := 0) (N := some 49) (v := ?_) (a' := ?_) #[true, false, false, false, false, false, false, false, false, false, false, false, false] rfl rfl (by kernel_rfl) (fun _ _ _ h => h) (Or.inl ⟨by rfl, ?_⟩) ?_ ?_
      rotate_left
      · intro w'
        go_simp
        with_reducible rfl
      rotate_left
      · simp only [Act.put, List.setIfInBounds_toArray, List.set_cons_zero, List.set_cons_succ, i64_w, i32_w]
        rfl
      refine pure_ (i := 1) (N := some 50) (v := ?_) (a' := ?_) #[true, true, false, false, false, false, false, false, false, false, false, false, false] rfl rfl (by kernel_rfl) (fun _ _ _ h => h) (Or.inl ⟨by rfl, ?_⟩) ?_ ?_
      rotate_left
      · intro w'
        go_simp
        with_reducible rfl
      rotate_left
      · simp only [Act.put, List.setIfInBounds_toArray, List.set_cons_zero, List.set_cons_succ, i64_w, i32_w]
        rfl
      refine pure_ (i := 2) (N := some 51) (v := ?_) (a' := ?_) #[true, true, true, false, false, false, false, false, false, false, false, false, false] rfl rfl (by kernel_rfl) (fun _ _ _ h => h) (Or.inl ⟨by rfl, ?_⟩) ?_ ?_
      rotate_left
      · intro w'
        go_simp
        with_reducible rfl
      rotate_left
      · simp only [Act.put, List.setIfInBounds_toArray, List.set_cons_zero, List.set_cons_succ, i64_w, i32_w]
        rfl
      refine pure_ (i := 3) (N := some 52) (v := ?_) (a' := ?_) #[true, true, true, true, false, false, false, false, false, false, false, false, false] rfl rfl (by kernel_rfl) (fun _ _ _ h => h) (Or.inl ⟨by rfl, ?_⟩) ?_ ?_
      rotate_left
      · intro w'
        go_simp
        with_reducible rfl
      rotate_left
      · simp only [Act.put, List.setIfInBounds_toArray, List.set_cons_zero, List.set_cons_succ, i64_w, i32_w]
        rfl
      refine pure_ (i := 4) (N := some 53) (v := ?_) (a' := ?_) #[true, true, true, true, true, false, false, false, false, false, false, false, false] rfl rfl (by kernel_rfl) (fun _ _ _ h => h) (Or.inl ⟨by rfl, ?_⟩) ?_ ?_
      rotate_left
      · intro w'
        go_simp
        with_reducible rfl
      rotate_left
      · simp only [Act.put, List.setIfInBounds_toArray, List.set_cons_zero, List.set_cons_succ, i64_w, i32_w]
        rfl
      refine pure_ (i := 5) (N := some 54) (v := ?_) (a' := ?_) #[true, true, true, true, true, true, false, false, false, false, false, false, false] rfl rfl (by kernel_rfl) (fun _ _ _ h => h) (Or.inl ⟨by rfl, ?_⟩) ?_ ?_
      rotate_left
      · intro w'
        go_simp
        with_reducible rfl
      rotate_left
      · simp only [Act.put, List.setIfInBounds_toArray, List.set_cons_zero, List.set_cons_succ, i64_w, i32_w]
        rfl
      refine take_ (i := 6) (N := some 55) (v := ?_) (a' := ?_) #[true, true, true, true, true, true, true, false, false, false, false, false, false] rfl rfl (by kernel_rfl) (fun _ _ _ h => h) (Or.inl ⟨by rfl, ?_⟩) hHeld ?_ ?_
      rotate_left
      · intro w' s0
        go_simp
        with_reducible rfl
      rotate_left
      · simp only [Act.put, List.setIfInBounds_toArray, List.set_cons_zero, List.set_cons_succ, i64_w, i32_w]
        rfl
      refine pure_ (i := 7) (N := some 56) (v := ?_) (a' := ?_) #[true, true, true, true, true, true, true, true, false, false, false, false, false] rfl rfl (by kernel_rfl) (fun _ _ _ h => h) (Or.inl ⟨by rfl, ?_⟩) ?_ ?_
      rotate_left
      · intro w'
        go_simp
        with_reducible rfl
      rotate_left
      · simp only [Act.put, List.setIfInBounds_toArray, List.set_cons_zero, List.set_cons_succ, i64_w, i32_w]
        rfl
      refine pure_ (i := 8) (N := some 57) (v := ?_) (a' := ?_) #[true, true, true, true, true, true, true, true, true, false, false, false, false] rfl rfl (by kernel_rfl) (fun _ _ _ h => h) (Or.inl ⟨by rfl, ?_⟩) ?_ ?_
      rotate_left
      · intro w'
        go_simp
        with_reducible rfl
      rotate_left
      · simp only [Act.put, List.setIfInBounds_toArray, List.set_cons_zero, List.set_cons_succ, i64_w, i32_w]
        rfl
      refine pure_ (i := 9) (N := some 58) (v := ?_) (a' := ?_) #[true, true, true, true, true, true, true, true, true, true, false, false, false] rfl rfl (by kernel_rfl) (fun _ _ _ h => h) (Or.inl ⟨by rfl, ?_⟩) ?_ ?_
      rotate_left
      · intro w'
        go_simp
        with_reducible rfl
      rotate_left
      · simp only [Act.put, List.setIfInBounds_toArray, List.set_cons_zero, List.set_cons_succ, i64_w, i32_w]
        rfl
      refine take_ (i := 10) (N := some 59) (v := ?_) (a' := ?_) #[true, true, true, true, true, true, true, true, true, true, true, false, false] rfl rfl (by kernel_rfl) (fun _ _ _ h => h) (Or.inl ⟨by rfl, ?_⟩) hHeld ?_ ?_
      rotate_left
      · intro w' s0
        go_simp
        with_reducible rfl
      rotate_left
      · simp only [Act.put, List.setIfInBounds_toArray, List.set_cons_zero, List.set_cons_succ, i64_w, i32_w]
        rfl
      refine pure_ (i := 11) (N := some 60) (v := ?_) (a' := ?_) #[true, true, true, true, true, true, true, true, true, true, true, true, false] rfl rfl (by kernel_rfl) (fun _ _ _ h => h) (Or.inl ⟨by rfl, ?_⟩) ?_ ?_
      rotate_left
      · intro w'
        go_simp
        with_reducible rfl
      rotate_left
      · simp only [Act.put, List.setIfInBounds_toArray, List.set_cons_zero, List.set_cons_succ, i64_w, i32_w]
        rfl
      refine pure_ (i := 12) (N := some 61) (v := ?_) (a' := ?_) #[true, true, true, true, true, true, true, true, true, true, true, true, true] rfl rfl (by kernel_rfl) (fun _ _ _ h => h) (Or.inl ⟨by rfl, ?_⟩) ?_ ?_
      rotate_left
      · intro w'
        go_simp
        with_reducible rfl
      rotate_left
      · simp only [Act.put, List.setIfInBounds_toArray, List.set_cons_zero, List.set_cons_succ, i64_w, i32_w]
        rfl
      refine done_ (by kernel_rfl) ?_
      have HBD := Lib.hid (HBE.out.drew)
      by_cases hcd : code = 0
      · subst hcd
        have hfin : rest.length = xs.length - N := by
          have h2 := HFE2.out rfl
          have h3 := congrArg List.length h2
          rw [List.length_append, HN.out] at h3
          omega
        have dfin : ((rest.length : Int) == (xs.length : Int) - (N : Int)) = true := by rw [beq_iff_eq]; omega
        clear hfin
        go_wp2_with (go_at_call 13; refine (waiting_ok _ _ B4 rest.length c4' (.bool false) (Blk.below HDE.out (Below.drew (Below.refl _ _)))).mono ?_; rintro e w9 ⟨rfl, rfl⟩)
        go_ret
        exact ⟨rfl, HBD.out⟩
      · have dc : (code != 0) = true := by rw [bne_iff_ne]; exact hcd
        go_wp2_with fail
        go_ret
        exact ⟨rfl, HBD.out⟩
end Go.Proofs.Ytpflenaoplblkaa.ProV
