import Derived.Test.YtpflenaoplblkaaGAi
section
namespace Go.Proofs.Ytpflenaoplblkaa.PaD
open Go.RowKit YtpflenaoplblkaaW.PrintWords YtpflenaoplblkaaW.PrintLast ProA ProB ProC ProI ProD ProG ProJ ProK ProL ProM ProN ProO ProP ProQ ProR ProU ProZ ProBb PaA
open ProH (msgTab repTab ba)
open PaB PaC
set_option linter.unusedVariables false
set_option linter.unusedSimpArgs false
theorem mem_pats {ps : List PS} (h : ps ∈ msgTab ∨ ps ∈ repTab) :
  ps = [] ∨ (∃ k lo hi, ps = [.num .n k lo hi]) ∨ (∃ k lo hi k2 lo2 hi2, ps = [.num .n k lo hi, .num .m k2 lo2 hi2]) ∨ (∃ k lo hi h2, ps = [.num .n k lo hi, .blob h2]) ∨ (∃ k lo hi h2, ps = [.num .tn k lo hi, .name, .blob h2]) := by
 rcases h with h | h
 ·
  simp only [msgTab, List.mem_cons, List.mem_nil_iff, or_false, List.not_mem_nil] at h
  rcases h with rfl | rfl | rfl | rfl | rfl | rfl | rfl | rfl <;> simp
 ·
  simp only [repTab, List.mem_cons, List.mem_nil_iff, or_false, List.not_mem_nil] at h
  rcases h with rfl | rfl | rfl | rfl | rfl | rfl | rfl | rfl | rfl | rfl <;> simp
theorem uncov_eq {ps : List PS} (h : ps ∈ msgTab ∨ ps ∈ repTab) (F : Flds) : uncov ps F = emptyB (clAll ps F) (clAll ps F).data.length := by
 have he : (ByteArray.empty).toList.isEmpty = true := by simp [ByteArray.toList, ByteArray.toList.loop]
 rcases mem_pats h with rfl | ⟨k, lo, hi, rfl⟩ | ⟨k, lo, hi, k2, lo2, hi2, rfl⟩ | ⟨k, lo, hi, h2, rfl⟩ | ⟨k, lo, hi, h2, rfl⟩
 all_goals by_cases a1 : F.tn = 0 <;> by_cases a2 : F.n = 0 <;> by_cases a3 : F.m = 0 <;> simp [uncov, hasB, rp, fieldOf, emptyB, clAll, clS, Fput, he, a1, a2, a3]
theorem encode_ok {ps : List PS} (h : ps ∈ msgTab ∨ ps ∈ repTab) (F : Flds) (A LA : Option Addr) (c lc : Nat) (w : World)
  (hl : Kd.C PProtoAll.k129 w LA ps.length (ps.map rp)) (hlc : ps.length ≤ lc) (hx : BytesAt w A F.data.length F.data) (hd : F.data.length ≤ 1000000000) (hn : F.name.size ≤ 1000000000) (hk0 : 0 ≤ F.kind) (hk1 : F.kind < 256) :
  Calls Try.prog 62 #[.agg #[.int .i64 F.kind, .int .i64 F.tn, .int .i64 F.n, .int .i64 F.m, .string F.name, .slice A F.data.length c], .slice LA ps.length lc] w (EncPost w (refE ps F)) := by
 have hpok : ∀ p ∈ ps, pok p := fun p hp => h.elim (fun h => msg_pok ps h p hp) (fun h => rep_pok ps h p hp)
 have hsm : ∀ p ∈ ps, psmall p := fun p hp => h.elim (fun h => msgTab_ok.small ps h p hp) (fun h => repTab_ok.small ps h p hp)
 have h3 : ps.length ≤ 3 := h.elim (fun h => ProBa.msg3 ps h) (fun h => ProBa.rep3 ps h)
 rcases mem_pats h with rfl | ⟨k, lo, hi, rfl⟩ | ⟨k, lo, hi, k2, lo2, hi2, rfl⟩ | ⟨k, lo, hi, h2, rfl⟩ | ⟨k, lo, hi, h2, rfl⟩
 · exact encode_none _ F A LA c lc w rfl rfl rfl rfl rfl h3 hpok hsm hl hlc hx hd hn hk0 hk1
 · exact encode_n _ F A LA c lc w rfl rfl rfl rfl rfl h3 hpok hsm hl hlc hx hd hn hk0 hk1
 · exact encode_nm _ F A LA c lc w rfl rfl rfl rfl rfl h3 hpok hsm hl hlc hx hd hn hk0 hk1
 · exact encode_nd _ F A LA c lc w rfl rfl rfl rfl rfl h3 hpok hsm hl hlc hx hd hn hk0 hk1
 · exact encode_open _ F A LA c lc w rfl rfl rfl rfl rfl h3 hpok hsm hl hlc hx hd hn hk0 hk1
theorem refE_encS {tab : List (List PS)} (F : Flds) (h1 : 1 ≤ F.kind) (h2 : F.kind < (tab.length : Int)) (ht : ∀ ps ∈ tab, ps ∈ msgTab ∨ ps ∈ repTab) : refE (tab.getD F.kind.toNat []) F = encS tab F := by
 have hlt : F.kind.toNat < tab.length := by omega
 have hg : tab[F.kind.toNat]? = some tab[F.kind.toNat] := List.getElem?_eq_getElem hlt
 unfold encS
 rw [if_neg (by omega), hg, List.getD_eq_getElem?_getD, hg]
 simp only [Option.getD_some]
 unfold refE
 rw [uncov_eq (ht _ (List.getElem_mem hlt))]
 generalize tab[F.kind.toNat] = ps
 cases encParts ps F with
 | none => simp
 | some body => simp [Nat.add_comm]
theorem encS_out {tab : List (List PS)} (F : Flds) (h : ¬ (1 ≤ F.kind ∧ F.kind < (tab.length : Int))) : encS tab F = .error 122 := by
 unfold encS
 rw [if_pos (by omega)]
theorem msg_len : (msgTab.length : Int) = 8 := rfl
theorem rep_len : (repTab.length : Int) = 10 := rfl
theorem tab_len (tab : List (List PS)) (k : Int) (h : ∀ ps ∈ tab, ps.length ≤ 3) : (tab.getD k.toNat []).length ≤ 3 := by
 rw [List.getD_eq_getElem?_getD]
 cases hg : tab[k.toNat]? with
 | none => simp
 | some ps => exact h ps (List.mem_of_getElem? hg)
theorem tab_mem (tab : List (List PS)) (k : Int) (h1 : 1 ≤ k) (h2 : k < (tab.length : Int)) : tab.getD k.toNat [] ∈ tab := by
 have hlt : k.toNat < tab.length := by omega
 rw [List.getD_eq_getElem?_getD, List.getElem?_eq_getElem hlt]
 exact List.getElem_mem hlt
theorem post_lift {w w2 : World} {r : Except Int (List Int)} {e : Ending} {w' : World} (h : EncPost w2 r e w') (h1 : Below w.heap.size w w2) : EncPost w r e w' := enc_lift (w1 := w) h h1
set_option maxHeartbeats 1000000 in
set_option maxRecDepth 100000 in
theorem refEncode_ok (M : S35) (B : Option Addr) (m c : Nat) (w : World) (hx : BytesAt w B m M.f4) (hbig : m ≤ 1000000000) (hn : M.f2.size ≤ 1000000000) :
  Calls Try.prog 36 #[.agg #[.int .i64 M.f0, .int .i64 M.f1, .string M.f2, .int .i64 M.f3, .slice B m c]] w (EncPost w (encS msgTab (fldM M))) := by
 obtain rfl : M.f4.length = m := BytesAt.len hx
 have HX := Lib.hid hx
 clear hx
 have hm := message_f M.f0
 by_cases h : 1 ≤ M.f0 ∧ M.f0 < (msgTab.length : Int)
 ·
  rw [if_pos h] at hm
  obtain ⟨h1, h2⟩ := h
  have hmem := tab_mem msgTab M.f0 h1 h2
  have hl3 := tab_len msgTab M.f0 ProBa.msg3
  have hres : encS msgTab (fldM M) = refE (msgTab.getD M.f0.toNat []) (fldM M) := (refE_encS (tab := msgTab) (fldM M) h1 h2 (fun ps h => .inl h)).symm
  rw [hres]
  have h8 : M.f0 < 8 := by rw [msg_len] at h2; exact h2
  generalize msgTab.getD M.f0.toNat [] = ps at hm hmem hl3 ⊢
  have HM := Lib.hid hm
  have HMEM := Lib.hid hmem
  clear hm hmem hres h2
  go_enter Try.func36, Try.ntmps36
  go_wp2_with fail
  refine (PProtoAll.arcaderef12_message.calls _ _ _ _ HM.out).mono ?_
  rintro e w2 ⟨v2, rfl, hr2, hb2⟩
  obtain ⟨LA, lc, hv2, hlc, hL⟩ := Kd.R_reads hr2
  rw [List.length_map] at hv2 hlc hL
  subst hv2
  have hbx : Blk w2 w.heap.size #[.int .i64 M.f0, .int .i64 M.f1, .string M.f2, .int .i64 M.f3, .slice B M.f4.length c] 35 := Blk.below (blkNew rfl) hb2
  have k0 := Blk.cell (i := 0) hbx rfl
  have k1 := Blk.cell (i := 1) hbx rfl
  have k2 := Blk.cell (i := 2) hbx rfl
  have k3 := Blk.cell (i := 3) hbx rfl
  have k4 := Blk.cell (i := 4) hbx rfl
  have HB2 := Lib.hid (Below.trans (ba (a := w) (.cells #[.int .i64 M.f0, .int .i64 M.f1, .string M.f2, .int .i64 M.f3, .slice B M.f4.length c] 35)) (hb2.mono (by simp)))
  have HL := Lib.hid hL
  clear hr2 hb2 hbx hL
  go_wp2_with fail
  refine (encode_ok (.inl HMEM.out) (fldM M) B LA c lc w2 HL.out hlc (BytesAt.below (B := 0) HX.out HB2.out) hbig hn (by show 0 ≤ M.f0; omega) (by show M.f0 < 256; omega)).mono ?_
  rintro e w3 ⟨v3, code3, rfl, hb3, hc3⟩
  have HP := Lib.hid (show EncPost w (refE ps (fldM M)) (.returned (.tuple #[v3, .int .i64 code3])) w3 from post_lift ⟨v3, code3, rfl, hb3, hc3⟩ HB2.out)
  clear hb3 hc3
  go_wp2_with fail
  go_ret2
  exact HP.out
 ·
  rw [if_neg h] at hm
  have hres : encS msgTab (fldM M) = .error 122 := encS_out (tab := msgTab) (fldM M) h
  rw [hres]
  have HM := Lib.hid hm
  clear hm hres h
  go_enter Try.func36, Try.ntmps36
  go_wp2_with fail
  refine (PProtoAll.arcaderef12_message.calls _ _ _ _ HM.out).mono ?_
  rintro e w2 ⟨v2, rfl, hr2, hb2⟩
  have HB2 := Lib.hid (Below.trans (ba (a := w) (.cells #[.int .i64 M.f0, .int .i64 M.f1, .string M.f2, .int .i64 M.f3, .slice B M.f4.length c] 35)) (hb2.mono (by simp)))
  clear hr2 hb2
  go_wp2_with fail
  go_ret2
  exact ⟨_, _, rfl, HB2.out, rfl, rfl⟩
set_option maxHeartbeats 1000000 in
set_option maxRecDepth 100000 in
theorem refEncReply_ok (M : S44) (B : Option Addr) (m c : Nat) (w : World) (hx : BytesAt w B m M.f3) (hbig : m ≤ 1000000000) :
  Calls Try.prog 53 #[.agg #[.int .i64 M.f0, .int .i64 M.f1, .int .i64 M.f2, .slice B m c]] w (EncPost w (encS repTab (fldR M))) := by
 obtain rfl : M.f3.length = m := BytesAt.len hx
 have HX := Lib.hid hx
 clear hx
 have hm := reply_f M.f0
 by_cases h : 1 ≤ M.f0 ∧ M.f0 < (repTab.length : Int)
 ·
  rw [if_pos h] at hm
  obtain ⟨h1, h2⟩ := h
  have hmem := tab_mem repTab M.f0 h1 h2
  have hl3 := tab_len repTab M.f0 ProBa.rep3
  have hres : encS repTab (fldR M) = refE (repTab.getD M.f0.toNat []) (fldR M) := (refE_encS (tab := repTab) (fldR M) h1 h2 (fun ps h => .inr h)).symm
  rw [hres]
  have h8 : M.f0 < 10 := by rw [rep_len] at h2; exact h2
  generalize repTab.getD M.f0.toNat [] = ps at hm hmem hl3 ⊢
  have HM := Lib.hid hm
  have HMEM := Lib.hid hmem
  clear hm hmem hres h2
  go_enter Try.func53, Try.ntmps53
  go_wp2_with fail
  refine (PProtoAll.arcaderef12_reply.calls 2 _ _ _ _ HM.out).mono ?_
  rintro e w2 ⟨v2, rfl, hr2, hb2⟩
  obtain ⟨LA, lc, hv2, hlc, hL⟩ := Kd.R_reads hr2
  rw [List.length_map] at hv2 hlc hL
  subst hv2
  have hbx : Blk w2 w.heap.size #[.int .i64 M.f0, .int .i64 M.f1, .int .i64 M.f2, .slice B M.f3.length c] 44 := Blk.below (blkNew rfl) hb2
  have k0 := Blk.cell (i := 0) hbx rfl
  have k1 := Blk.cell (i := 1) hbx rfl
  have k2 := Blk.cell (i := 2) hbx rfl
  have k3 := Blk.cell (i := 3) hbx rfl
  have HB2 := Lib.hid (Below.trans (ba (a := w) (.cells #[.int .i64 M.f0, .int .i64 M.f1, .int .i64 M.f2, .slice B M.f3.length c] 44)) (hb2.mono (by simp)))
  have HL := Lib.hid hL
  clear hr2 hb2 hbx hL
  go_wp2_with fail
  refine (encode_ok (.inr HMEM.out) (fldR M) B LA c lc w2 HL.out hlc (BytesAt.below (B := 0) HX.out HB2.out) hbig (by show ByteArray.empty.size ≤ _; decide) (by show 0 ≤ M.f0; omega) (by show M.f0 < 256; omega)).mono ?_
  rintro e w3 ⟨v3, code3, rfl, hb3, hc3⟩
  have HP := Lib.hid (show EncPost w (refE ps (fldR M)) (.returned (.tuple #[v3, .int .i64 code3])) w3 from post_lift ⟨v3, code3, rfl, hb3, hc3⟩ HB2.out)
  clear hb3 hc3
  go_wp2_with fail
  go_ret2
  exact HP.out
 ·
  rw [if_neg h] at hm
  have hres : encS repTab (fldR M) = .error 122 := encS_out (tab := repTab) (fldR M) h
  rw [hres]
  have HM := Lib.hid hm
  clear hm hres h
  go_enter Try.func53, Try.ntmps53
  go_wp2_with fail
  refine (PProtoAll.arcaderef12_reply.calls 2 _ _ _ _ HM.out).mono ?_
  rintro e w2 ⟨v2, rfl, hr2, hb2⟩
  have HB2 := Lib.hid (Below.trans (ba (a := w) (.cells #[.int .i64 M.f0, .int .i64 M.f1, .int .i64 M.f2, .slice B M.f3.length c] 44)) (hb2.mono (by simp)))
  clear hr2 hb2
  go_wp2_with fail
  go_ret2
  exact ⟨_, _, rfl, HB2.out, rfl, rfl⟩
end Go.Proofs.Ytpflenaoplblkaa.PaD
end
section
namespace Go.Proofs.Ytpflenaoplblkaa.PaE
open Go.RowKit YtpflenaoplblkaaW.PrintWords YtpflenaoplblkaaW.PrintLast ProA ProB ProC ProI ProD ProG ProJ ProK ProL ProM ProN ProO ProP ProQ ProR ProU ProZ ProBb PaA
open ProH (msgTab repTab ba)
open PaB PaC PaD ProV
set_option linter.unusedVariables false
set_option linter.unusedSimpArgs false
theorem number_ok (A : Option Addr) (n c : Nat) (ys : List Int) (w : World) (h : BytesAt w A n ys) (hc : n ≤ c) (hu : u8s ys) (hn : n ≤ 4) : Calls Try.prog 86 #[.slice A n c] w fun e w' => e = .returned (.int .i64 (be ys)) ∧ Drawn0 w w' := by
 obtain rfl : ys.length = n := BytesAt.len h
 exact PProtoAll.arcaderef12_number.calls 5 A c ys (be ys) w h hc (number_f ys hu hn)
theorem drop_eq (A : Option Addr) (c : Nat) (xs : List Int) (k : Nat) (hk : k ≤ xs.length) (hc : xs.length ≤ c) : ∃ A' : Option Addr, (∀ W : World, (Instr.slice 22 (.slice A xs.length c) (some (.int .i64 (k : Int))) none none).run Try.prog W = .ok (.slice A' (xs.length - k) (c - k)) W) ∧
  (∀ w : World, BytesAt w A xs.length xs → BytesAt w A' (xs.length - k) (xs.drop k)) ∧ xs.length - k ≤ c - k := by
 obtain ⟨i5, hi5, hz5⟩ := info5'
 obtain ⟨A', h1, h2, h3⟩ := print_drop_of (P := Try.prog) (Value.int .u8) (0 : Int) 22 5 .i64 Try.underlying22 hi5 hz5 A c xs (k : Int) (by omega) (by omega) hc
 simp only [Int.toNat_natCast, List.length_drop] at h1 h2 h3
 exact ⟨A', h1, fun w h => BytesAt.of (h2 w (BytesAt.nums h)), h3⟩
theorem take_read {w : World} {A : Option Addr} {xs : List Int} (h : BytesAt w A xs.length xs) (k : Nat) (hk : k ≤ xs.length) : BytesAt w A k (xs.take k) := by
 have := ReadsInt.take_ (BytesAt.nums h) k hk
 exact BytesAt.of this
def RestAt (w0 : World) (xs : List Int) (k : Nat) (rv : Value) : Prop := ∃ A' c', rv = .slice A' (xs.length - k) c' ∧ xs.length - k ≤ c' ∧ BytesAt w0 A' (xs.length - k) (xs.drop k)
def TakePost (w w0 : World) (g : Nat) (p : PS) (xs : List Int) (F : Flds) (dv : Value) (e : Ending) (w' : World) : Prop :=
 ∃ (F' : Flds) (dv' rv : Value) (code : Int), e = .returned (.tuple #[rv, .int .i64 code]) ∧ Tu [g] w w' ∧ Blk w' g (F'.cells dv') 118 ∧ Own w' w0.heap.size (fun k => k ≠ g) dv' F'.data ∧
  match rdS p xs F with
  | none => code = 121
  | some (F1, k) => if fitsS p F1 then code = 0 ∧ F' = F1 ∧ RestAt w0 xs k rv ∧ (4 ≠ fdOf p → dv' = dv) else code = 123
theorem own_kept {w w' : World} {base g : Nat} {dv : Value} {xs : List Int} (h : Own w base (fun k => k ≠ g) dv xs) (ht : Tu [g] w w') : Own w' base (fun k => k ≠ g) dv xs :=
  Kd.R_step h (fun k hk hlt => ht.block k hlt (by simpa using hk))
theorem post_121 {w w0 : World} {g : Nat} {p : PS} {xs : List Int} {F : Flds} {dv : Value} {w' : World} {rv : Value} (hr : rdS p xs F = none) (ht : Tu [g] w w') (hf : Blk w g (F.cells dv) 118) (hf' : Blk w' g (F.cells dv) 118) (ho : Own w w0.heap.size (fun k => k ≠ g) dv F.data) : TakePost w w0 g p xs F dv (.returned (.tuple #[rv, .int .i64 121])) w' := by
 refine ⟨F, dv, rv, 121, rfl, ht, hf', own_kept ho ht, ?_⟩
 rw [hr]
theorem post_123 {w w0 : World} {g : Nat} {p : PS} {xs : List Int} {F F1 F2 : Flds} {k : Nat} {dv dv2 : Value} {w' : World} {rv : Value} (hr : rdS p xs F = some (F1, k)) (hfit : fitsS p F1 = false) (ht : Tu [g] w w') (hf' : Blk w' g (F2.cells dv2) 118) (ho : Own w w0.heap.size (fun k => k ≠ g) dv2 F2.data) : TakePost w w0 g p xs F dv (.returned (.tuple #[rv, .int .i64 123])) w' := by
 refine ⟨F2, dv2, rv, 123, rfl, ht, hf', own_kept ho ht, ?_⟩
 rw [hr]
 simp only
 rw [if_neg (by rw [hfit]; simp)]
 trivial
theorem post_ok {w w0 : World} {g : Nat} {p : PS} {xs : List Int} {F F1 : Flds} {k : Nat} {dv dv2 : Value} {w' : World} {rv : Value} (hr : rdS p xs F = some (F1, k)) (hfit : fitsS p F1 = true) (ht : Tu [g] w w') (hf' : Blk w' g (F1.cells dv2) 118) (ho : Own w' w0.heap.size (fun k => k ≠ g) dv2 F1.data) (hrest : RestAt w0 xs k rv) (hdd : 4 ≠ fdOf p → dv2 = dv) : TakePost w w0 g p xs F dv (.returned (.tuple #[rv, .int .i64 0])) w' := by
 refine ⟨F1, dv2, rv, 0, rfl, ht, hf', ho, ?_⟩
 rw [hr]
 simp only
 rw [if_pos hfit]
 exact ⟨trivial, trivial, hrest, hdd⟩
theorem tu_box (S : List Nat) (w : World) (o : Obj) : Tu S w (w.alloc o) := (Tu.refl _ _).alloc o
set_option maxHeartbeats 1000000 in
set_option maxRecDepth 100000 in
theorem take_T (kd lo hi : Int) (k : Nat) (F : Flds) (dv : Value) (g : Nat) (A : Option Addr) (c : Nat) (xs : List Int) (w w0 : World) (hx : BytesAt w0 A xs.length xs) (hu : u8s xs) (hc : xs.length ≤ c) (hbw : Below w0.heap.size w0 w) (hg0 : w0.heap.size ≤ g) (hf : Blk w g (F.cells dv) 118) (ho : Own w w0.heap.size (fun k => k ≠ g) dv F.data) (hbig : xs.length ≤ 1000000000)
  (hsz : PProtoAll.arcaderef12_Part_size.f kd 84 lo hi = some (k : Int)) (hkd1 : (kd == 110) = false) (hkd2 : (kd == 100) = false) (hk4 : k ≤ 4) (hk1 : 1 ≤ k) :
  Calls Try.prog 91 #[.agg #[.int .u8 kd, .int .u8 84, .int .i64 lo, .int .i64 hi], .slice A xs.length c, pt g] w (TakePost w w0 g (.num .tn k lo hi) xs F dv) := by
 have HSZ := Lib.hid hsz
 have HX := Lib.hid hx
 have HF := Lib.hid hf
 have HO := Lib.hid ho
 have HBW := Lib.hid hbw
 have hs0 := hbw.size
 have hglt := Blk.lt hf
 clear hsz hx hf ho hbw
 by_cases h1 : xs.length < k
 ·
  have d1 : decide ((xs.length : Int) < (k : Int)) = true := by simp; omega
  have hr : rdS (.num .tn k lo hi) xs F = none := by simp only [rdS]; rw [if_neg (by omega)]
  have HR := Lib.hid hr
  clear hr
  go_enter Try.func91, Try.ntmps91
  go_wp2_with (first
   | (go_at_call 89; refine (size_ok _ _ _ _ k HSZ.out _).mono ?_; rintro e w2 ⟨rfl, hb2⟩; have HB2 := Lib.hid hb2; clear hb2))
  go_ret2
  have ht := (tu_box [g] w _).trans (Tu.of_below HB2.out)
  exact post_121 HR.out ht HF.out (Blk.below (Blk.below HF.out (ba _)) HB2.out) HO.out
 ·
  have d1 : decide ((xs.length : Int) < (k : Int)) = false := by simp; omega
  have hv0 := be_lt hu k
  have hv4 : (256 : Int) ^ k ≤ 256 ^ 4 := by
   rcases (show k = 1 ∨ k = 2 ∨ k = 3 ∨ k = 4 by omega) with rfl | rfl | rfl | rfl <;> decide
  have HTK := Lib.hid (take_read HX.out k (by omega))
  have HUT := Lib.hid (u8_take hu k)
  obtain ⟨A2, hrun, hread, hcap⟩ := drop_eq A c xs k (by omega) hc
  have hr : rdS (.num .tn k lo hi) xs F = some ({ F with tn := be (xs.take k) }, k) := by simp only [rdS]; rw [if_pos (by omega)]; rfl
  have HR := Lib.hid hr
  have HRD := Lib.hid hread
  have HCP := Lib.hid hcap
  generalize hvv : be (xs.take k) = v at hv0 HR
  have HVV := Lib.hid hvv
  clear hr hread hvv hcap
  by_cases h2 : v < lo
  ·
   have d2 : decide (v < lo) = true := by simp; omega
   have hfit : fitsS (.num .tn k lo hi) { F with tn := v } = false := by show (decide (lo ≤ v) && decide (v ≤ hi)) = false; simp; omega
   have HFIT := Lib.hid hfit
   clear hfit
   go_enter Try.func91, Try.ntmps91
   go_wp2_with (first
    | (go_at_call 89; refine (size_ok _ _ _ _ k HSZ.out _).mono ?_; rintro e w2 ⟨rfl, hb2⟩; have HB2 := Lib.hid hb2; have hbx2 := Blk.below (blkNew rfl) hb2; have k0 := Blk.cell (i := 0) hbx2 rfl; have k1 := Blk.cell (i := 1) hbx2 rfl; have k2 := Blk.cell (i := 2) hbx2 rfl; have k3 := Blk.cell (i := 3) hbx2 rfl; clear hb2 hbx2)
    | (go_at_call 86; refine (number_ok A k c (xs.take k) _ (BytesAt.below (B := 0) HTK.out (HBW.out.trans (((ba _).trans (HB2.out.mono (by simp))).mono hs0))) (by omega) HUT.out hk4).mono ?_; rw [HVV.out]; rintro e w3 ⟨rfl, hd3⟩; obtain ⟨n3, rfl⟩ := hd3.out))
   go_ret2
   have ht := ((tu_box [g] w _).trans (Tu.of_below HB2.out)).drewN n3
   have hfb := Blk.below (Blk.below HF.out (ba _)) HB2.out
   exact post_123 HR.out HFIT.out ht hfb HO.out
  ·
   have d2 : decide (v < lo) = false := by simp; omega
   by_cases h3 : v > hi
   ·
    have d3 : decide (v > hi) = true := by simp; omega
    have hfit : fitsS (.num .tn k lo hi) { F with tn := v } = false := by show (decide (lo ≤ v) && decide (v ≤ hi)) = false; simp; omega
    have HFIT := Lib.hid hfit
    clear hfit
    go_enter Try.func91, Try.ntmps91
    go_wp2_with (first
     | (go_at_call 89; refine (size_ok _ _ _ _ k HSZ.out _).mono ?_; rintro e w2 ⟨rfl, hb2⟩; have HB2 := Lib.hid hb2; have hbx2 := Blk.below (blkNew rfl) hb2; have k0 := Blk.cell (i := 0) hbx2 rfl; have k1 := Blk.cell (i := 1) hbx2 rfl; have k2 := Blk.cell (i := 2) hbx2 rfl; have k3 := Blk.cell (i := 3) hbx2 rfl; clear hb2 hbx2)
     | (go_at_call 86; refine (number_ok A k c (xs.take k) _ (BytesAt.below (B := 0) HTK.out (HBW.out.trans (((ba _).trans (HB2.out.mono (by simp))).mono hs0))) (by omega) HUT.out hk4).mono ?_; rw [HVV.out]; rintro e w3 ⟨rfl, hd3⟩; obtain ⟨n3, rfl⟩ := hd3.out))
    go_ret2
    have ht := ((tu_box [g] w _).trans (Tu.of_below HB2.out)).drewN n3
    have hfb := Blk.below (Blk.below HF.out (ba _)) HB2.out
    exact post_123 HR.out HFIT.out ht hfb HO.out
   ·
    have d3 : decide (v > hi) = false := by simp; omega
    have hfit : fitsS (.num .tn k lo hi) { F with tn := v } = true := by show (decide (lo ≤ v) && decide (v ≤ hi)) = true; simp; omega
    have HFIT := Lib.hid hfit
    clear hfit
    go_enter Try.func91, Try.ntmps91
    go_wp2_with (first
     | (go_at_call 89; refine (size_ok _ _ _ _ k HSZ.out _).mono ?_; rintro e w2 ⟨rfl, hb2⟩; have HB2 := Lib.hid hb2; have hbx2 := Blk.below (blkNew rfl) hb2; have k0 := Blk.cell (i := 0) hbx2 rfl; have k1 := Blk.cell (i := 1) hbx2 rfl; have k2 := Blk.cell (i := 2) hbx2 rfl; have k3 := Blk.cell (i := 3) hbx2 rfl; have HF2 := Lib.hid (Blk.below (Blk.below HF.out (ba _)) hb2); have kg := Blk.cell (i := 1) HF2.out rfl; have zg := Blk.frozen (i := 1) HF2.out; clear hb2 hbx2)
     | (go_at_call 86; refine (number_ok A k c (xs.take k) _ (BytesAt.below (B := 0) HTK.out (HBW.out.trans (((ba _).trans (HB2.out.mono (by simp))).mono hs0))) (by omega) HUT.out hk4).mono ?_; rw [HVV.out]; rintro e w3 ⟨rfl, hd3⟩; obtain ⟨n3, rfl⟩ := hd3.out))
    go_ret2
    have ht := (((tu_box [g] w _).trans (Tu.of_below HB2.out)).drewN n3).setCell (p := ⟨g, 1, none⟩) (.inl (by simp)) (.int .i64 v)
    exact post_ok HR.out HFIT.out ht (Blk.set (i := 1) HF2.out _) (own_kept HO.out ht) ⟨A2, c - k, rfl, HCP.out, HRD.out _ HX.out⟩ (fun _ => rfl)
set_option maxHeartbeats 1000000 in
set_option maxRecDepth 100000 in
theorem take_N (kd lo hi : Int) (k : Nat) (F : Flds) (dv : Value) (g : Nat) (A : Option Addr) (c : Nat) (xs : List Int) (w w0 : World) (hx : BytesAt w0 A xs.length xs) (hu : u8s xs) (hc : xs.length ≤ c) (hbw : Below w0.heap.size w0 w) (hg0 : w0.heap.size ≤ g) (hf : Blk w g (F.cells dv) 118) (ho : Own w w0.heap.size (fun k => k ≠ g) dv F.data) (hbig : xs.length ≤ 1000000000)
  (hsz : PProtoAll.arcaderef12_Part_size.f kd 78 lo hi = some (k : Int)) (hkd1 : (kd == 110) = false) (hkd2 : (kd == 100) = false) (hk4 : k ≤ 4) (hk1 : 1 ≤ k) :
  Calls Try.prog 91 #[.agg #[.int .u8 kd, .int .u8 78, .int .i64 lo, .int .i64 hi], .slice A xs.length c, pt g] w (TakePost w w0 g (.num .n k lo hi) xs F dv) := by
 have HSZ := Lib.hid hsz
 have HX := Lib.hid hx
 have HF := Lib.hid hf
 have HO := Lib.hid ho
 have HBW := Lib.hid hbw
 have hs0 := hbw.size
 have hglt := Blk.lt hf
 clear hsz hx hf ho hbw
 by_cases h1 : xs.length < k
 ·
  have d1 : decide ((xs.length : Int) < (k : Int)) = true := by simp; omega
  have hr : rdS (.num .n k lo hi) xs F = none := by simp only [rdS]; rw [if_neg (by omega)]
  have HR := Lib.hid hr
  clear hr
  go_enter Try.func91, Try.ntmps91
  go_wp2_with (first
   | (go_at_call 89; refine (size_ok _ _ _ _ k HSZ.out _).mono ?_; rintro e w2 ⟨rfl, hb2⟩; have HB2 := Lib.hid hb2; clear hb2))
  go_ret2
  have ht := (tu_box [g] w _).trans (Tu.of_below HB2.out)
  exact post_121 HR.out ht HF.out (Blk.below (Blk.below HF.out (ba _)) HB2.out) HO.out
 ·
  have d1 : decide ((xs.length : Int) < (k : Int)) = false := by simp; omega
  have hv0 := be_lt hu k
  have hv4 : (256 : Int) ^ k ≤ 256 ^ 4 := by
   rcases (show k = 1 ∨ k = 2 ∨ k = 3 ∨ k = 4 by omega) with rfl | rfl | rfl | rfl <;> decide
  have HTK := Lib.hid (take_read HX.out k (by omega))
  have HUT := Lib.hid (u8_take hu k)
  obtain ⟨A2, hrun, hread, hcap⟩ := drop_eq A c xs k (by omega) hc
  have hr : rdS (.num .n k lo hi) xs F = some ({ F with n := be (xs.take k) }, k) := by simp only [rdS]; rw [if_pos (by omega)]; rfl
  have HR := Lib.hid hr
  have HRD := Lib.hid hread
  have HCP := Lib.hid hcap
  generalize hvv : be (xs.take k) = v at hv0 HR
  have HVV := Lib.hid hvv
  clear hr hread hvv hcap
  by_cases h2 : v < lo
  ·
   have d2 : decide (v < lo) = true := by simp; omega
   have hfit : fitsS (.num .n k lo hi) { F with n := v } = false := by show (decide (lo ≤ v) && decide (v ≤ hi)) = false; simp; omega
   have HFIT := Lib.hid hfit
   clear hfit
   go_enter Try.func91, Try.ntmps91
   go_wp2_with (first
    | (go_at_call 89; refine (size_ok _ _ _ _ k HSZ.out _).mono ?_; rintro e w2 ⟨rfl, hb2⟩; have HB2 := Lib.hid hb2; have hbx2 := Blk.below (blkNew rfl) hb2; have k0 := Blk.cell (i := 0) hbx2 rfl; have k1 := Blk.cell (i := 1) hbx2 rfl; have k2 := Blk.cell (i := 2) hbx2 rfl; have k3 := Blk.cell (i := 3) hbx2 rfl; clear hb2 hbx2)
    | (go_at_call 86; refine (number_ok A k c (xs.take k) _ (BytesAt.below (B := 0) HTK.out (HBW.out.trans (((ba _).trans (HB2.out.mono (by simp))).mono hs0))) (by omega) HUT.out hk4).mono ?_; rw [HVV.out]; rintro e w3 ⟨rfl, hd3⟩; obtain ⟨n3, rfl⟩ := hd3.out))
   go_ret2
   have ht := ((tu_box [g] w _).trans (Tu.of_below HB2.out)).drewN n3
   have hfb := Blk.below (Blk.below HF.out (ba _)) HB2.out
   exact post_123 HR.out HFIT.out ht hfb HO.out
  ·
   have d2 : decide (v < lo) = false := by simp; omega
   by_cases h3 : v > hi
   ·
    have d3 : decide (v > hi) = true := by simp; omega
    have hfit : fitsS (.num .n k lo hi) { F with n := v } = false := by show (decide (lo ≤ v) && decide (v ≤ hi)) = false; simp; omega
    have HFIT := Lib.hid hfit
    clear hfit
    go_enter Try.func91, Try.ntmps91
    go_wp2_with (first
     | (go_at_call 89; refine (size_ok _ _ _ _ k HSZ.out _).mono ?_; rintro e w2 ⟨rfl, hb2⟩; have HB2 := Lib.hid hb2; have hbx2 := Blk.below (blkNew rfl) hb2; have k0 := Blk.cell (i := 0) hbx2 rfl; have k1 := Blk.cell (i := 1) hbx2 rfl; have k2 := Blk.cell (i := 2) hbx2 rfl; have k3 := Blk.cell (i := 3) hbx2 rfl; clear hb2 hbx2)
     | (go_at_call 86; refine (number_ok A k c (xs.take k) _ (BytesAt.below (B := 0) HTK.out (HBW.out.trans (((ba _).trans (HB2.out.mono (by simp))).mono hs0))) (by omega) HUT.out hk4).mono ?_; rw [HVV.out]; rintro e w3 ⟨rfl, hd3⟩; obtain ⟨n3, rfl⟩ := hd3.out))
    go_ret2
    have ht := ((tu_box [g] w _).trans (Tu.of_below HB2.out)).drewN n3
    have hfb := Blk.below (Blk.below HF.out (ba _)) HB2.out
    exact post_123 HR.out HFIT.out ht hfb HO.out
   ·
    have d3 : decide (v > hi) = false := by simp; omega
    have hfit : fitsS (.num .n k lo hi) { F with n := v } = true := by show (decide (lo ≤ v) && decide (v ≤ hi)) = true; simp; omega
    have HFIT := Lib.hid hfit
    clear hfit
    go_enter Try.func91, Try.ntmps91
    go_wp2_with (first
     | (go_at_call 89; refine (size_ok _ _ _ _ k HSZ.out _).mono ?_; rintro e w2 ⟨rfl, hb2⟩; have HB2 := Lib.hid hb2; have hbx2 := Blk.below (blkNew rfl) hb2; have k0 := Blk.cell (i := 0) hbx2 rfl; have k1 := Blk.cell (i := 1) hbx2 rfl; have k2 := Blk.cell (i := 2) hbx2 rfl; have k3 := Blk.cell (i := 3) hbx2 rfl; have HF2 := Lib.hid (Blk.below (Blk.below HF.out (ba _)) hb2); have kg := Blk.cell (i := 2) HF2.out rfl; have zg := Blk.frozen (i := 2) HF2.out; clear hb2 hbx2)
     | (go_at_call 86; refine (number_ok A k c (xs.take k) _ (BytesAt.below (B := 0) HTK.out (HBW.out.trans (((ba _).trans (HB2.out.mono (by simp))).mono hs0))) (by omega) HUT.out hk4).mono ?_; rw [HVV.out]; rintro e w3 ⟨rfl, hd3⟩; obtain ⟨n3, rfl⟩ := hd3.out))
    go_ret2
    have ht := (((tu_box [g] w _).trans (Tu.of_below HB2.out)).drewN n3).setCell (p := ⟨g, 2, none⟩) (.inl (by simp)) (.int .i64 v)
    exact post_ok HR.out HFIT.out ht (Blk.set (i := 2) HF2.out _) (own_kept HO.out ht) ⟨A2, c - k, rfl, HCP.out, HRD.out _ HX.out⟩ (fun _ => rfl)
set_option maxHeartbeats 1000000 in
set_option maxRecDepth 100000 in
theorem take_M (kd lo hi : Int) (k : Nat) (F : Flds) (dv : Value) (g : Nat) (A : Option Addr) (c : Nat) (xs : List Int) (w w0 : World) (hx : BytesAt w0 A xs.length xs) (hu : u8s xs) (hc : xs.length ≤ c) (hbw : Below w0.heap.size w0 w) (hg0 : w0.heap.size ≤ g) (hf : Blk w g (F.cells dv) 118) (ho : Own w w0.heap.size (fun k => k ≠ g) dv F.data) (hbig : xs.length ≤ 1000000000)
  (hsz : PProtoAll.arcaderef12_Part_size.f kd 77 lo hi = some (k : Int)) (hkd1 : (kd == 110) = false) (hkd2 : (kd == 100) = false) (hk4 : k ≤ 4) (hk1 : 1 ≤ k) :
  Calls Try.prog 91 #[.agg #[.int .u8 kd, .int .u8 77, .int .i64 lo, .int .i64 hi], .slice A xs.length c, pt g] w (TakePost w w0 g (.num .m k lo hi) xs F dv) := by
 have HSZ := Lib.hid hsz
 have HX := Lib.hid hx
 have HF := Lib.hid hf
 have HO := Lib.hid ho
 have HBW := Lib.hid hbw
 have hs0 := hbw.size
 have hglt := Blk.lt hf
 clear hsz hx hf ho hbw
 by_cases h1 : xs.length < k
 ·
  have d1 : decide ((xs.length : Int) < (k : Int)) = true := by simp; omega
  have hr : rdS (.num .m k lo hi) xs F = none := by simp only [rdS]; rw [if_neg (by omega)]
  have HR := Lib.hid hr
  clear hr
  go_enter Try.func91, Try.ntmps91
  go_wp2_with (first
   | (go_at_call 89; refine (size_ok _ _ _ _ k HSZ.out _).mono ?_; rintro e w2 ⟨rfl, hb2⟩; have HB2 := Lib.hid hb2; clear hb2))
  go_ret2
  have ht := (tu_box [g] w _).trans (Tu.of_below HB2.out)
  exact post_121 HR.out ht HF.out (Blk.below (Blk.below HF.out (ba _)) HB2.out) HO.out
 ·
  have d1 : decide ((xs.length : Int) < (k : Int)) = false := by simp; omega
  have hv0 := be_lt hu k
  have hv4 : (256 : Int) ^ k ≤ 256 ^ 4 := by
   rcases (show k = 1 ∨ k = 2 ∨ k = 3 ∨ k = 4 by omega) with rfl | rfl | rfl | rfl <;> decide
  have HTK := Lib.hid (take_read HX.out k (by omega))
  have HUT := Lib.hid (u8_take hu k)
  obtain ⟨A2, hrun, hread, hcap⟩ := drop_eq A c xs k (by omega) hc
  have hr : rdS (.num .m k lo hi) xs F = some ({ F with m := be (xs.take k) }, k) := by simp only [rdS]; rw [if_pos (by omega)]; rfl
  have HR := Lib.hid hr
  have HRD := Lib.hid hread
  have HCP := Lib.hid hcap
  generalize hvv : be (xs.take k) = v at hv0 HR
  have HVV := Lib.hid hvv
  clear hr hread hvv hcap
  by_cases h2 : v < lo
  ·
   have d2 : decide (v < lo) = true := by simp; omega
   have hfit : fitsS (.num .m k lo hi) { F with m := v } = false := by show (decide (lo ≤ v) && decide (v ≤ hi)) = false; simp; omega
   have HFIT := Lib.hid hfit
   clear hfit
   go_enter Try.func91, Try.ntmps91
   go_wp2_with (first
    | (go_at_call 89; refine (size_ok _ _ _ _ k HSZ.out _).mono ?_; rintro e w2 ⟨rfl, hb2⟩; have HB2 := Lib.hid hb2; have hbx2 := Blk.below (blkNew rfl) hb2; have k0 := Blk.cell (i := 0) hbx2 rfl; have k1 := Blk.cell (i := 1) hbx2 rfl; have k2 := Blk.cell (i := 2) hbx2 rfl; have k3 := Blk.cell (i := 3) hbx2 rfl; clear hb2 hbx2)
    | (go_at_call 86; refine (number_ok A k c (xs.take k) _ (BytesAt.below (B := 0) HTK.out (HBW.out.trans (((ba _).trans (HB2.out.mono (by simp))).mono hs0))) (by omega) HUT.out hk4).mono ?_; rw [HVV.out]; rintro e w3 ⟨rfl, hd3⟩; obtain ⟨n3, rfl⟩ := hd3.out))
   go_ret2
   have ht := ((tu_box [g] w _).trans (Tu.of_below HB2.out)).drewN n3
   have hfb := Blk.below (Blk.below HF.out (ba _)) HB2.out
   exact post_123 HR.out HFIT.out ht hfb HO.out
  ·
   have d2 : decide (v < lo) = false := by simp; omega
   by_cases h3 : v > hi
   ·
    have d3 : decide (v > hi) = true := by simp; omega
    have hfit : fitsS (.num .m k lo hi) { F with m := v } = false := by show (decide (lo ≤ v) && decide (v ≤ hi)) = false; simp; omega
    have HFIT := Lib.hid hfit
    clear hfit
    go_enter Try.func91, Try.ntmps91
    go_wp2_with (first
     | (go_at_call 89; refine (size_ok _ _ _ _ k HSZ.out _).mono ?_; rintro e w2 ⟨rfl, hb2⟩; have HB2 := Lib.hid hb2; have hbx2 := Blk.below (blkNew rfl) hb2; have k0 := Blk.cell (i := 0) hbx2 rfl; have k1 := Blk.cell (i := 1) hbx2 rfl; have k2 := Blk.cell (i := 2) hbx2 rfl; have k3 := Blk.cell (i := 3) hbx2 rfl; clear hb2 hbx2)
     | (go_at_call 86; refine (number_ok A k c (xs.take k) _ (BytesAt.below (B := 0) HTK.out (HBW.out.trans (((ba _).trans (HB2.out.mono (by simp))).mono hs0))) (by omega) HUT.out hk4).mono ?_; rw [HVV.out]; rintro e w3 ⟨rfl, hd3⟩; obtain ⟨n3, rfl⟩ := hd3.out))
    go_ret2
    have ht := ((tu_box [g] w _).trans (Tu.of_below HB2.out)).drewN n3
    have hfb := Blk.below (Blk.below HF.out (ba _)) HB2.out
    exact post_123 HR.out HFIT.out ht hfb HO.out
   ·
    have d3 : decide (v > hi) = false := by simp; omega
    have hfit : fitsS (.num .m k lo hi) { F with m := v } = true := by show (decide (lo ≤ v) && decide (v ≤ hi)) = true; simp; omega
    have HFIT := Lib.hid hfit
    clear hfit
    go_enter Try.func91, Try.ntmps91
    go_wp2_with (first
     | (go_at_call 89; refine (size_ok _ _ _ _ k HSZ.out _).mono ?_; rintro e w2 ⟨rfl, hb2⟩; have HB2 := Lib.hid hb2; have hbx2 := Blk.below (blkNew rfl) hb2; have k0 := Blk.cell (i := 0) hbx2 rfl; have k1 := Blk.cell (i := 1) hbx2 rfl; have k2 := Blk.cell (i := 2) hbx2 rfl; have k3 := Blk.cell (i := 3) hbx2 rfl; have HF2 := Lib.hid (Blk.below (Blk.below HF.out (ba _)) hb2); have kg := Blk.cell (i := 3) HF2.out rfl; have zg := Blk.frozen (i := 3) HF2.out; clear hb2 hbx2)
     | (go_at_call 86; refine (number_ok A k c (xs.take k) _ (BytesAt.below (B := 0) HTK.out (HBW.out.trans (((ba _).trans (HB2.out.mono (by simp))).mono hs0))) (by omega) HUT.out hk4).mono ?_; rw [HVV.out]; rintro e w3 ⟨rfl, hd3⟩; obtain ⟨n3, rfl⟩ := hd3.out))
    go_ret2
    have ht := (((tu_box [g] w _).trans (Tu.of_below HB2.out)).drewN n3).setCell (p := ⟨g, 3, none⟩) (.inl (by simp)) (.int .i64 v)
    exact post_ok HR.out HFIT.out ht (Blk.set (i := 3) HF2.out _) (own_kept HO.out ht) ⟨A2, c - k, rfl, HCP.out, HRD.out _ HX.out⟩ (fun _ => rfl)
theorem drop_at (A : Option Addr) (n c : Nat) (xs : List Int) (hl : xs.length = n) (k : Nat) (hk : k ≤ n) (hc : n ≤ c) : ∃ A' : Option Addr, (∀ W : World, (Instr.slice 22 (.slice A n c) (some (.int .i64 (k : Int))) none none).run Try.prog W = .ok (.slice A' (n - k) (c - k)) W) ∧
  (∀ w : World, BytesAt w A n xs → BytesAt w A' (n - k) (xs.drop k)) ∧ n - k ≤ c - k := by
 subst hl
 exact drop_eq A c xs k hk hc
theorem take_read' {w : World} {A : Option Addr} {n : Nat} {xs : List Int} (h : BytesAt w A n xs) (k : Nat) (hk : k ≤ n) : BytesAt w A k (xs.take k) := by
 obtain rfl : xs.length = n := BytesAt.len h
 exact take_read h k hk
set_option maxHeartbeats 1000000 in
set_option maxRecDepth 100000 in
theorem take_A (F : Flds) (dv : Value) (g : Nat) (A : Option Addr) (c : Nat) (xs : List Int) (w w0 : World) (hx : BytesAt w0 A xs.length xs) (hu : u8s xs) (hc : xs.length ≤ c) (hbw : Below w0.heap.size w0 w) (hg0 : w0.heap.size ≤ g) (hf : Blk w g (F.cells dv) 118) (ho : Own w w0.heap.size (fun k => k ≠ g) dv F.data) (hbig : xs.length ≤ 1000000000) :
  Calls Try.prog 91 #[.agg #[.int .u8 110, .int .u8 65, .int .i64 1, .int .i64 16], .slice A xs.length c, pt g] w (TakePost w w0 g .name xs F dv) := by
 have hsz : PProtoAll.arcaderef12_Part_size.f 110 65 1 16 = some ((1 : Nat) : Int) := rfl
 have HSZ := Lib.hid hsz
 have HX := Lib.hid hx
 have HF := Lib.hid hf
 have HO := Lib.hid ho
 have HBW := Lib.hid hbw
 have hs0 := hbw.size
 have hglt := Blk.lt hf
 clear hsz hx hf ho hbw
 by_cases h1 : xs.length < 1
 ·
  have d1 : decide ((xs.length : Int) < 1) = true := by simp; omega
  have hr : rdS .name xs F = none := by simp only [rdS]; rw [if_neg (by omega)]
  have HR := Lib.hid hr
  clear hr
  go_enter Try.func91, Try.ntmps91
  go_wp2_with (first
   | (go_at_call 89; refine (size_ok _ _ _ _ 1 HSZ.out _).mono ?_; rintro e w2 ⟨rfl, hb2⟩; have HB2 := Lib.hid hb2; have hbx2 := Blk.below (blkNew rfl) hb2; have k0 := Blk.cell (i := 0) hbx2 rfl; have k1 := Blk.cell (i := 1) hbx2 rfl; have k2 := Blk.cell (i := 2) hbx2 rfl; have k3 := Blk.cell (i := 3) hbx2 rfl; have HF2 := Lib.hid (Blk.below (Blk.below HF.out (ba _)) hb2); have kg := Blk.cell (i := 4) HF2.out rfl; have zg := Blk.frozen (i := 4) HF2.out; clear hb2 hbx2))
  go_ret2
  have ht := (tu_box [g] w _).trans (Tu.of_below HB2.out)
  exact post_121 HR.out ht HF.out HF2.out HO.out
 ·
  have d1 : decide ((xs.length : Int) < 1) = false := by simp; omega
  have HTK := Lib.hid (take_read HX.out 1 (by omega))
  have HUT := Lib.hid (u8_take hu 1)
  obtain ⟨A2, hrun0, hread, hcap⟩ := drop_eq A c xs 1 (by omega) hc
  have hrun : ∀ W : World, (Instr.slice 22 (.slice A xs.length c) (some (.int .i64 1)) none none).run Try.prog W = .ok (.slice A2 (xs.length - 1) (c - 1)) W := hrun0
  clear hrun0
  have HX2 := Lib.hid (hread _ HX.out)
  have HVV := Lib.hid (len1_eq hu 1)
  have hl0 : len1 xs 1 < 256 := by have := (be_lt hu 1).2; have := len1_eq hu 1; omega
  generalize hL : len1 xs 1 = L at HVV hl0
  clear hread
  have hn1 : ((xs.length - 1 : Nat) : Int) = (xs.length : Int) - 1 := by omega
  have HN1 := Lib.hid hn1
  clear hn1
  by_cases h2 : L > xs.length - 1
  ·
   have d2 : decide ((L : Int) > ((xs.length - 1 : Nat) : Int)) = true := by simp; omega
   have d2n : decide (xs.length - 1 < L) = true := by simp; omega
   have hr : rdS .name xs F = none := by simp only [rdS]; rw [if_neg (by rw [hL]; omega)]
   have HR := Lib.hid hr
   clear hr hL
   go_enter Try.func91, Try.ntmps91
   go_wp2_with (first
    | (go_at_call 89; refine (size_ok _ _ _ _ 1 HSZ.out _).mono ?_; rintro e w2 ⟨rfl, hb2⟩; have HB2 := Lib.hid hb2; have hbx2 := Blk.below (blkNew rfl) hb2; have k0 := Blk.cell (i := 0) hbx2 rfl; have k1 := Blk.cell (i := 1) hbx2 rfl; have k2 := Blk.cell (i := 2) hbx2 rfl; have k3 := Blk.cell (i := 3) hbx2 rfl; have HF2 := Lib.hid (Blk.below (Blk.below HF.out (ba _)) hb2); have kg := Blk.cell (i := 4) HF2.out rfl; have zg := Blk.frozen (i := 4) HF2.out; clear hb2 hbx2)
    | (go_at_call 86; refine (number_ok A 1 c (xs.take 1) _ (BytesAt.below (B := 0) HTK.out (HBW.out.trans (((ba _).trans (HB2.out.mono (by simp))).mono hs0))) (by omega) HUT.out (by omega)).mono ?_; rw [HVV.out]; rintro e w3 ⟨rfl, hd3⟩; obtain ⟨n3, rfl⟩ := hd3.out))
   all_goals
    go_ret2
    have ht := ((tu_box [g] w _).trans (Tu.of_below HB2.out)).drewN n3
    exact post_121 HR.out ht HF.out HF2.out HO.out
  ·
   have d2 : decide ((L : Int) > ((xs.length - 1 : Nat) : Int)) = false := by simp; omega
   have d2n : decide (xs.length - 1 < L) = false := by simp; omega
   have hr : rdS .name xs F = some ({ F with name := strOfNums ((xs.drop 1).take L) }, 1 + L) := by simp only [rdS]; rw [if_pos (by rw [hL]; omega), hL]
   have HR := Lib.hid hr
   have hsl : (strOfNums ((xs.drop 1).take L)).size = L := by rw [str_size, List.length_take, List.length_drop]; omega
   have HSL := Lib.hid hsl
   have hfeq : fitsS .name { F with name := strOfNums ((xs.drop 1).take L) } = (okFrom (strOfNums ((xs.drop 1).take L)) 0 && (decide (1 ≤ L) && decide (L ≤ 16))) := by
    show nameOk (strOfNums ((xs.drop 1).take L)) = _
    rw [nameOk_eq, hsl]
   have HFE := Lib.hid hfeq
   clear hr hL hfeq hsl
   by_cases h3 : L < 1
   ·
    have d3 : decide ((L : Int) < 1) = true := by simp; omega
    have hfit : fitsS .name { F with name := strOfNums ((xs.drop 1).take L) } = false := by rw [HFE.out, show decide (1 ≤ L) = false by simp; omega]; simp
    have HFIT := Lib.hid hfit
    clear hfit
    go_enter Try.func91, Try.ntmps91
    go_wp2_with (first
     | (go_at_call 89; refine (size_ok _ _ _ _ 1 HSZ.out _).mono ?_; rintro e w2 ⟨rfl, hb2⟩; have HB2 := Lib.hid hb2; have hbx2 := Blk.below (blkNew rfl) hb2; have k0 := Blk.cell (i := 0) hbx2 rfl; have k1 := Blk.cell (i := 1) hbx2 rfl; have k2 := Blk.cell (i := 2) hbx2 rfl; have k3 := Blk.cell (i := 3) hbx2 rfl; have HF2 := Lib.hid (Blk.below (Blk.below HF.out (ba _)) hb2); have kg := Blk.cell (i := 4) HF2.out rfl; have zg := Blk.frozen (i := 4) HF2.out; clear hb2 hbx2)
     | (go_at_call 86; refine (number_ok A 1 c (xs.take 1) _ (BytesAt.below (B := 0) HTK.out (HBW.out.trans (((ba _).trans (HB2.out.mono (by simp))).mono hs0))) (by omega) HUT.out (by omega)).mono ?_; rw [HVV.out]; rintro e w3 ⟨rfl, hd3⟩; obtain ⟨n3, rfl⟩ := hd3.out))
    all_goals
     go_ret2
     have ht := ((tu_box [g] w _).trans (Tu.of_below HB2.out)).drewN n3
     exact post_123 HR.out HFIT.out ht HF2.out HO.out
   ·
    have d3 : decide ((L : Int) < 1) = false := by simp; omega
    by_cases h4 : L > 16
    ·
     have d4 : decide ((L : Int) > 16) = true := by simp; omega
     have hfit : fitsS .name { F with name := strOfNums ((xs.drop 1).take L) } = false := by rw [HFE.out, show decide (L ≤ 16) = false by simp; omega]; simp
     have HFIT := Lib.hid hfit
     clear hfit
     go_enter Try.func91, Try.ntmps91
     go_wp2_with (first
      | (go_at_call 89; refine (size_ok _ _ _ _ 1 HSZ.out _).mono ?_; rintro e w2 ⟨rfl, hb2⟩; have HB2 := Lib.hid hb2; have hbx2 := Blk.below (blkNew rfl) hb2; have k0 := Blk.cell (i := 0) hbx2 rfl; have k1 := Blk.cell (i := 1) hbx2 rfl; have k2 := Blk.cell (i := 2) hbx2 rfl; have k3 := Blk.cell (i := 3) hbx2 rfl; have HF2 := Lib.hid (Blk.below (Blk.below HF.out (ba _)) hb2); have kg := Blk.cell (i := 4) HF2.out rfl; have zg := Blk.frozen (i := 4) HF2.out; clear hb2 hbx2)
      | (go_at_call 86; refine (number_ok A 1 c (xs.take 1) _ (BytesAt.below (B := 0) HTK.out (HBW.out.trans (((ba _).trans (HB2.out.mono (by simp))).mono hs0))) (by omega) HUT.out (by omega)).mono ?_; rw [HVV.out]; rintro e w3 ⟨rfl, hd3⟩; obtain ⟨n3, rfl⟩ := hd3.out))
     all_goals
      go_ret2
      have ht := ((tu_box [g] w _).trans (Tu.of_below HB2.out)).drewN n3
      exact post_123 HR.out HFIT.out ht HF2.out HO.out
    ·
     have d4 : decide ((L : Int) > 16) = false := by simp; omega
     have d5 : decide (L ≤ xs.length - 1) = true := by simp; omega
     obtain ⟨A3, hrun3, hread3, hcap3⟩ := drop_at A2 (xs.length - 1) (c - 1) (xs.drop 1) (by simp) L (by omega) hcap
     have HX3 := Lib.hid (hread3 _ HX2.out)
     have HT2 := Lib.hid (take_read' HX2.out L (by omega))
     generalize hnm : strOfNums ((xs.drop 1).take L) = nm at HR HFE HSL
     have HNM := Lib.hid hnm
     have hnsz : nm.size ≤ 1000000000 := by rw [HSL.out]; omega
     clear hread3 hnm
     have hfit : fitsS .name { F with name := nm } = okFrom nm 0 := by rw [HFE.out, show decide (1 ≤ L) = true by simp; omega, show decide (L ≤ 16) = true by simp; omega]; simp
     by_cases hok : okFrom nm 0 = true
     ·
      rw [hok] at hfit
      have HFIT := Lib.hid hfit
      have HOK := Lib.hid hok
      clear hfit hok
      go_enter Try.func91, Try.ntmps91
      go_wp2_with (first
       | (go_at_call 89; refine (size_ok _ _ _ _ 1 HSZ.out _).mono ?_; rintro e w2 ⟨rfl, hb2⟩; have HB2 := Lib.hid hb2; have hbx2 := Blk.below (blkNew rfl) hb2; have k0 := Blk.cell (i := 0) hbx2 rfl; have k1 := Blk.cell (i := 1) hbx2 rfl; have k2 := Blk.cell (i := 2) hbx2 rfl; have k3 := Blk.cell (i := 3) hbx2 rfl; have HF2 := Lib.hid (Blk.below (Blk.below HF.out (ba _)) hb2); have kg := Blk.cell (i := 4) HF2.out rfl; have zg := Blk.frozen (i := 4) HF2.out; clear hb2 hbx2)
       | (go_at_call 86; refine (number_ok A 1 c (xs.take 1) _ (BytesAt.below (B := 0) HTK.out (HBW.out.trans (((ba _).trans (HB2.out.mono (by simp))).mono hs0))) (by omega) HUT.out (by omega)).mono ?_; rw [HVV.out]; rintro e w3 ⟨rfl, hd3⟩; obtain ⟨n3, rfl⟩ := hd3.out; have hq := conv_str (c := c - 1) (BytesAt.below (B := 0) HT2.out (HBW.out.trans (((ba _).trans (HB2.out.mono (by simp))).mono hs0) |>.trans (bdrew _ _ n3))); rw [HNM.out] at hq)
       | (go_at_call 88; refine (rname_ok nm hnsz _).mono ?_; rw [HOK.out]; rintro e w5 ⟨rfl, hd5⟩; obtain ⟨n5, rfl⟩ := hd5.out))
      all_goals
       go_ret2
       have ht := (((tu_box [g] w _).trans (Tu.of_below HB2.out)).drewN n3).setCell (p := ⟨g, 4, none⟩) (.inl (by simp)) (.string nm)
       have ht2 := ht.drewN n5
       have hset := Blk.set (i := 4) HF2.out (.string nm)
       exact post_ok HR.out HFIT.out ht2 hset (own_kept HO.out ht2) ⟨A3, c - 1 - L, (rfl : _ = Value.slice A3 (xs.length - 1 - L) (c - 1 - L)).trans (by rw [show xs.length - 1 - L = xs.length - (1 + L) by omega]), by omega, by have h := HX3.out; rw [List.drop_drop, show xs.length - 1 - L = xs.length - (1 + L) by omega] at h; exact h⟩ (fun _ => rfl)
     ·
      simp only [Bool.not_eq_true] at hok
      rw [hok] at hfit
      have HFIT := Lib.hid hfit
      have HOK := Lib.hid hok
      clear hfit hok
      go_enter Try.func91, Try.ntmps91
      go_wp2_with (first
       | (go_at_call 89; refine (size_ok _ _ _ _ 1 HSZ.out _).mono ?_; rintro e w2 ⟨rfl, hb2⟩; have HB2 := Lib.hid hb2; have hbx2 := Blk.below (blkNew rfl) hb2; have k0 := Blk.cell (i := 0) hbx2 rfl; have k1 := Blk.cell (i := 1) hbx2 rfl; have k2 := Blk.cell (i := 2) hbx2 rfl; have k3 := Blk.cell (i := 3) hbx2 rfl; have HF2 := Lib.hid (Blk.below (Blk.below HF.out (ba _)) hb2); have kg := Blk.cell (i := 4) HF2.out rfl; have zg := Blk.frozen (i := 4) HF2.out; clear hb2 hbx2)
       | (go_at_call 86; refine (number_ok A 1 c (xs.take 1) _ (BytesAt.below (B := 0) HTK.out (HBW.out.trans (((ba _).trans (HB2.out.mono (by simp))).mono hs0))) (by omega) HUT.out (by omega)).mono ?_; rw [HVV.out]; rintro e w3 ⟨rfl, hd3⟩; obtain ⟨n3, rfl⟩ := hd3.out; have hq := conv_str (c := c - 1) (BytesAt.below (B := 0) HT2.out (HBW.out.trans (((ba _).trans (HB2.out.mono (by simp))).mono hs0) |>.trans (bdrew _ _ n3))); rw [HNM.out] at hq)
       | (go_at_call 88; refine (rname_ok nm hnsz _).mono ?_; rw [HOK.out]; rintro e w5 ⟨rfl, hd5⟩; obtain ⟨n5, rfl⟩ := hd5.out))
      all_goals
       go_ret2
       have ht := (((tu_box [g] w _).trans (Tu.of_below HB2.out)).drewN n3).setCell (p := ⟨g, 4, none⟩) (.inl (by simp)) (.string nm)
       have ht2 := ht.drewN n5
       have hset := Blk.set (i := 4) HF2.out (.string nm)
       exact post_123 (F2 := { F with name := nm }) HR.out HFIT.out ht2 hset HO.out
end Go.Proofs.Ytpflenaoplblkaa.PaE
end
section
namespace Go.Proofs.Ytpflenaoplblkaa.PaF
open Go.RowKit YtpflenaoplblkaaW.PrintWords YtpflenaoplblkaaW.PrintLast ProA ProB ProC ProI ProD ProG ProJ ProK ProL ProM ProN ProO ProP ProQ ProR ProU ProZ ProBb PaA
open ProH (msgTab repTab ba)
open PaB PaC PaD PaE
set_option linter.unusedVariables false
set_option linter.unusedSimpArgs false
set_option maxHeartbeats 1000000 in
set_option maxRecDepth 100000 in
theorem take_D (hi : Int) (F : Flds) (dv : Value) (g : Nat) (A : Option Addr) (c : Nat) (xs : List Int) (w w0 : World) (hx : BytesAt w0 A xs.length xs) (hu : u8s xs) (hc : xs.length ≤ c) (hbw : Below w0.heap.size w0 w) (hg0 : w0.heap.size ≤ g) (hf : Blk w g (F.cells dv) 118) (ho : Own w w0.heap.size (fun k => k ≠ g) dv F.data) (hdv : dv = .slice none 0 0) (hFd : F.data = []) (hbig : xs.length ≤ 1000000000) (h0 : 0 ≤ hi) (hhi : hi < 4294967296) :
  Calls Try.prog 91 #[.agg #[.int .u8 100, .int .u8 68, .int .i64 0, .int .i64 hi], .slice A xs.length c, pt g] w (TakePost w w0 g (.blob hi) xs F dv) := by
 have hsz : PProtoAll.arcaderef12_Part_size.f 100 68 0 hi = some ((4 : Nat) : Int) := rfl
 subst hdv
 have HSZ := Lib.hid hsz
 have HX := Lib.hid hx
 have HF := Lib.hid hf
 have HO := Lib.hid ho
 have HBW := Lib.hid hbw
 have hs0 := hbw.size
 have hglt := Blk.lt hf
 clear hsz hx hf ho hbw
 by_cases h1 : xs.length < 4
 ·
  have d1 : decide ((xs.length : Int) < 4) = true := by simp; omega
  have hr : rdS (.blob hi) xs F = none := by simp only [rdS]; rw [if_neg (by omega)]
  have HR := Lib.hid hr
  clear hr
  go_enter Try.func91, Try.ntmps91
  go_wp2_with (first
   | (go_at_call 89; refine (size_ok _ _ _ _ 4 HSZ.out _).mono ?_; rintro e w2 ⟨rfl, hb2⟩; have HB2 := Lib.hid hb2; have hbx2 := Blk.below (blkNew rfl) hb2; have k0 := Blk.cell (i := 0) hbx2 rfl; have k1 := Blk.cell (i := 1) hbx2 rfl; have k2 := Blk.cell (i := 2) hbx2 rfl; have k3 := Blk.cell (i := 3) hbx2 rfl; have HF2 := Lib.hid (Blk.below (Blk.below HF.out (ba _)) hb2); have kg := Blk.cell (i := 5) HF2.out rfl; have zg := Blk.frozen (i := 5) HF2.out; clear hb2 hbx2))
  go_ret2
  have ht := (tu_box [g] w _).trans (Tu.of_below HB2.out)
  exact post_121 HR.out ht HF.out HF2.out HO.out
 ·
  have d1 : decide ((xs.length : Int) < 4) = false := by simp; omega
  have HTK := Lib.hid (take_read HX.out 4 (by omega))
  have HUT := Lib.hid (u8_take hu 4)
  obtain ⟨A2, hrun0, hread, hcap⟩ := drop_eq A c xs 4 (by omega) hc
  have hrun : ∀ W : World, (Instr.slice 22 (.slice A xs.length c) (some (.int .i64 4)) none none).run Try.prog W = .ok (.slice A2 (xs.length - 4) (c - 4)) W := hrun0
  clear hrun0
  have HX2 := Lib.hid (hread _ HX.out)
  have HVV := Lib.hid (len1_eq hu 4)
  have hl0 : len1 xs 4 < 4294967296 := by have := (be_lt hu 4).2; have := len1_eq hu 4; omega
  generalize hL : len1 xs 4 = L at HVV hl0
  clear hread
  by_cases h2 : L > xs.length - 4
  ·
   have d2 : decide ((L : Int) > ((xs.length - 4 : Nat) : Int)) = true := by simp; omega
   have d2n : decide (xs.length - 4 < L) = true := by simp; omega
   have hr : rdS (.blob hi) xs F = none := by simp only [rdS]; rw [if_neg (by rw [hL]; omega)]
   have HR := Lib.hid hr
   clear hr hL
   go_enter Try.func91, Try.ntmps91
   go_wp2_with (first
    | (go_at_call 89; refine (size_ok _ _ _ _ 4 HSZ.out _).mono ?_; rintro e w2 ⟨rfl, hb2⟩; have HB2 := Lib.hid hb2; have hbx2 := Blk.below (blkNew rfl) hb2; have k0 := Blk.cell (i := 0) hbx2 rfl; have k1 := Blk.cell (i := 1) hbx2 rfl; have k2 := Blk.cell (i := 2) hbx2 rfl; have k3 := Blk.cell (i := 3) hbx2 rfl; have HF2 := Lib.hid (Blk.below (Blk.below HF.out (ba _)) hb2); have kg := Blk.cell (i := 5) HF2.out rfl; have zg := Blk.frozen (i := 5) HF2.out; clear hb2 hbx2)
    | (go_at_call 86; refine (number_ok A 4 c (xs.take 4) _ (BytesAt.below (B := 0) HTK.out (HBW.out.trans (((ba _).trans (HB2.out.mono (by simp))).mono hs0))) (by omega) HUT.out (by omega)).mono ?_; rw [HVV.out]; rintro e w3 ⟨rfl, hd3⟩; obtain ⟨n3, rfl⟩ := hd3.out))
   all_goals
    go_ret2
    have ht := ((tu_box [g] w _).trans (Tu.of_below HB2.out)).drewN n3
    exact post_121 HR.out ht HF.out HF2.out HO.out
  ·
   have d2 : decide ((L : Int) > ((xs.length - 4 : Nat) : Int)) = false := by simp; omega
   have d2n : decide (xs.length - 4 < L) = false := by simp; omega
   have hr : rdS (.blob hi) xs F = some ({ F with data := (xs.drop 4).take L }, 4 + L) := by simp only [rdS]; rw [if_pos (by rw [hL]; omega), hL]
   have HR := Lib.hid hr
   have hdl : ((xs.drop 4).take L).length = L := by rw [List.length_take, List.length_drop]; omega
   have HDL := Lib.hid hdl
   have hfeq : fitsS (.blob hi) { F with data := (xs.drop 4).take L } = decide ((L : Int) ≤ hi) := by
    show decide ((((xs.drop 4).take L).length : Int) ≤ hi) = _
    rw [hdl]
   have HFE := Lib.hid hfeq
   clear hr hL hfeq hdl
   have d3 : decide ((L : Int) < 0) = false := by simp
   by_cases h4 : (L : Int) > hi
   ·
    have d4 : decide ((L : Int) > hi) = true := by simp; omega
    have hfit : fitsS (.blob hi) { F with data := (xs.drop 4).take L } = false := by rw [HFE.out]; simp; omega
    have HFIT := Lib.hid hfit
    clear hfit
    go_enter Try.func91, Try.ntmps91
    go_wp2_with (first
     | (go_at_call 89; refine (size_ok _ _ _ _ 4 HSZ.out _).mono ?_; rintro e w2 ⟨rfl, hb2⟩; have HB2 := Lib.hid hb2; have hbx2 := Blk.below (blkNew rfl) hb2; have k0 := Blk.cell (i := 0) hbx2 rfl; have k1 := Blk.cell (i := 1) hbx2 rfl; have k2 := Blk.cell (i := 2) hbx2 rfl; have k3 := Blk.cell (i := 3) hbx2 rfl; have HF2 := Lib.hid (Blk.below (Blk.below HF.out (ba _)) hb2); have kg := Blk.cell (i := 5) HF2.out rfl; have zg := Blk.frozen (i := 5) HF2.out; clear hb2 hbx2)
     | (go_at_call 86; refine (number_ok A 4 c (xs.take 4) _ (BytesAt.below (B := 0) HTK.out (HBW.out.trans (((ba _).trans (HB2.out.mono (by simp))).mono hs0))) (by omega) HUT.out (by omega)).mono ?_; rw [HVV.out]; rintro e w3 ⟨rfl, hd3⟩; obtain ⟨n3, rfl⟩ := hd3.out))
    all_goals
     go_ret2
     have ht := ((tu_box [g] w _).trans (Tu.of_below HB2.out)).drewN n3
     exact post_123 HR.out HFIT.out ht HF2.out HO.out
   ·
    have d4 : decide ((L : Int) > hi) = false := by simp; omega
    have d5 : decide (L ≤ xs.length - 4) = true := by simp; omega
    have d6 : L ≤ c - 4 := by omega
    obtain ⟨A3, hrun3, hread3, hcap3⟩ := drop_at A2 (xs.length - 4) (c - 4) (xs.drop 4) (by simp) L (by omega) hcap
    have HX3 := Lib.hid (hread3 _ HX2.out)
    have HT2 := Lib.hid (take_read' HX2.out L (by omega))
    clear hread3
    have hfit : fitsS (.blob hi) { F with data := (xs.drop 4).take L } = true := by rw [HFE.out]; simp; omega
    have HFIT := Lib.hid hfit
    clear hfit
    go_enter Try.func91, Try.ntmps91
    go_wp2_with (first
     | (go_at_call 89; refine (size_ok _ _ _ _ 4 HSZ.out _).mono ?_; rintro e w2 ⟨rfl, hb2⟩; have HB2 := Lib.hid hb2; have hbx2 := Blk.below (blkNew rfl) hb2; have k0 := Blk.cell (i := 0) hbx2 rfl; have k1 := Blk.cell (i := 1) hbx2 rfl; have k2 := Blk.cell (i := 2) hbx2 rfl; have k3 := Blk.cell (i := 3) hbx2 rfl; have HF2 := Lib.hid (Blk.below (Blk.below HF.out (ba _)) hb2); have kg := Blk.cell (i := 5) HF2.out rfl; have zg := Blk.frozen (i := 5) HF2.out; clear hb2 hbx2)
     | (go_at_call 86; refine (number_ok A 4 c (xs.take 4) _ (BytesAt.below (B := 0) HTK.out (HBW.out.trans (((ba _).trans (HB2.out.mono (by simp))).mono hs0))) (by omega) HUT.out (by omega)).mono ?_; rw [HVV.out]; rintro e w3 ⟨rfl, hd3⟩; obtain ⟨n3, rfl⟩ := hd3.out; have HWW := Lib.hid (HBW.out.trans (((ba _).trans (HB2.out.mono (by simp))).mono hs0) |>.trans (bdrew _ _ n3))))

    refine start_ (n := 12) (S := fun w' => w'.cell? ⟨g, 5, none⟩ = some (.slice none 0 0)) (ds := [8, 11]) #[false, false, false, false, false, false, false, false, false, false, false, false] (by kernel_rfl) rfl rfl kg (fun hHeld => ?_)
    refine pu_ (i := 0) (N := some 89) (v := ?_) (a' := ?_) rfl rfl (by kernel_rfl) (fun _ _ _ h => h) (by rfl) ?_ ?_ ?_
    rotate_left
    · (intro w'; go_simp; with_reducible rfl)
    rotate_left
    · (simp only [put_s, List.set, i64_w, i32_w]; rfl)
    refine pu_ (i := 1) (N := some 90) (v := ?_) (a' := ?_) rfl rfl (by kernel_rfl) (fun _ _ _ h => h) (by rfl) ?_ ?_ ?_
    rotate_left
    · (intro w'; go_simp; with_reducible rfl)
    rotate_left
    · (simp only [put_s, List.set, i64_w, i32_w]; rfl)
    refine pu_ (i := 2) (N := some 91) (v := ?_) (a' := ?_) rfl rfl (by kernel_rfl) (fun _ _ _ h => h) (by rfl) ?_ ?_ ?_
    rotate_left
    · (intro w'; go_simp; with_reducible rfl)
    rotate_left
    · (simp only [put_s, List.set, i64_w, i32_w]; rfl)
    refine pu_ (i := 3) (N := some 92) (v := ?_) (a' := ?_) rfl rfl (by kernel_rfl) (fun _ _ _ h => h) (by rfl) ?_ ?_ ?_
    rotate_left
    · (intro w'; go_simp; with_reducible rfl)
    rotate_left
    · (simp only [put_s, List.set, i64_w, i32_w]; rfl)
    refine tk_ (i := 4) (N := some 93) (v := ?_) (a' := ?_) rfl rfl (by kernel_rfl) (fun _ _ _ h => h) (by rfl) ?_ hHeld ?_ ?_
    rotate_left
    · (intro w' s0; go_simp; with_reducible rfl)
    rotate_left
    · (simp only [put_s, List.set, i64_w, i32_w]; rfl)
    refine pu_ (i := 5) (N := some 94) (v := ?_) (a' := ?_) rfl rfl (by kernel_rfl) (fun _ _ _ h => h) (by rfl) ?_ ?_ ?_
    rotate_left
    · (intro w'; go_simp; with_reducible rfl)
    rotate_left
    · (simp only [put_s, List.set, i64_w, i32_w]; rfl)
    refine pu_ (i := 6) (N := some 95) (v := ?_) (a' := ?_) rfl rfl (by kernel_rfl) (fun _ _ _ h => h) (by rfl) ?_ ?_ ?_
    rotate_left
    · (intro w'; go_simp; with_reducible rfl)
    rotate_left
    · (simp only [put_s, List.set, i64_w, i32_w]; rfl)
    refine pu_ (i := 7) (N := some 96) (v := ?_) (a' := ?_) rfl rfl (by kernel_rfl) (fun _ _ _ h => h) (by rfl) ?_ ?_ ?_
    rotate_left
    · (intro w'; go_simp; with_reducible rfl)
    rotate_left
    · (simp only [put_s, List.set, i64_w, i32_w]; rfl)
    refine la_ (i := 8) (N := some 97) rfl rfl (by kernel_rfl) (by decide) (fun K hK => ?_)
    refine Kd.R_append_rows_step (Kd.int .u8) (Rr := (Kd.int .u8).K _) (w0 := w0) w0.heap.size (by rfl) (.tmp 93) (.tmp 96) 22 5 (.int .u8 0) 1 rfl Try.underlying22 info5 rfl (by decide) (by omega) (.slice none 0 0) [] ((xs.drop 4).take L) A2 L (c - 4) (fun k => k ≠ g) (fun _ => False) rfl rfl (Kd.R_nil _ _ _ _ _) (BytesAt.below (B := 0) HT2.out (HWW.out.trans (Below.drew (Below.refl _ _)))) (fun _ _ hh => hh) (fun _ hk => hk.elim) (fun q hq => by have := Blk.lt HF2.out; have hz : w2.heap.size ≤ q := hq; omega) (HWW.out.trans (Below.drew (Below.refl _ _))) (HWW.out.size) (by simp; omega) ?_
    intro v4 w4 ho4 hb4 hg4 hat4
    obtain ⟨A4, c4, hv4, _, _⟩ := Kd.R_reads ho4
    rw [List.nil_append, HDL.out] at hv4
    subst hv4
    have HO4 := Lib.hid ho4
    have hf4 : Blk w4 g (F.cells (.slice none 0 0)) 118 := (hg4.block g (Blk.lt HF2.out) (by simp [Value.ownBlock])).trans HF2.out
    have HF4 := Lib.hid hf4
    have kg4 := Blk.cell (i := 5) hf4 rfl
    have zg4 := Blk.frozen (i := 5) hf4
    have HT4 : Hid (Tu [g] (w2.drewN n3).drew w4) := Lib.hid ((Tu.refl _ _).grown hg4 (fun k hk => by simp [Value.ownBlock] at hk))
    clear ho4 hb4 hg4 hat4 hf4
    refine hK.out _ _ ?_
    clear hK K
    refine norm_ (a' := ?_) ?_ ?_
    rotate_left
    ·
     show Act.put _ (some 97) _ = _
     simp only [put_s, List.set, i64_w, i32_w]
     rfl
    refine pu_ (i := 9) (N := some 98) (v := ?_) (a' := ?_) rfl rfl (by kernel_rfl) (fun _ _ _ h => h) (by rfl) ?_ ?_ ?_
    rotate_left
    · (intro w'; go_simp; with_reducible rfl)
    rotate_left
    · (simp only [put_s, List.set, i64_w, i32_w]; rfl)
    refine pu_ (i := 10) (N := some 99) (v := ?_) (a' := ?_) rfl rfl (by kernel_rfl) (fun _ _ _ h => h) (by rfl) ?_ ?_ ?_
    rotate_left
    · (intro w'; go_simp; with_reducible rfl)
    rotate_left
    · (simp only [put_s, List.set, i64_w, i32_w]; rfl)
    refine la_ (i := 11) (N := none) rfl rfl (by kernel_rfl) (by decide) (fun K hK => ?_)
    refine skip_ (w1 := w4.setCell ⟨g, 5, none⟩ (.slice A4 L c4)) (by rfl) rfl (by go_simp) ?_
    refine hK.out _ _ ?_
    clear hK K
    refine done_ (by kernel_rfl) ?_
    go_wp2_with fail
    go_ret2
    have ht := (((tu_box [g] w _).trans (Tu.of_below HB2.out)).drewN n3).drew.trans HT4.out
    have ht2 := ht.setCell (p := ⟨g, 5, none⟩) (.inl (by simp)) (.slice A4 L c4)
    have hset := Blk.set (i := 5) HF4.out (.slice A4 L c4)
    have hown : Own (w4.setCell ⟨g, 5, none⟩ (.slice A4 L c4)) w0.heap.size (fun k => k ≠ g) (.slice A4 L c4) ((xs.drop 4).take L) := Kd.R_far HO4.out (fun k hk => hk) (.slice A4 L c4)
    exact post_ok HR.out HFIT.out ht2 hset hown ⟨A3, c - 4 - L, (rfl : _ = Value.slice A3 (xs.length - 4 - L) (c - 4 - L)).trans (by rw [show xs.length - 4 - L = xs.length - (4 + L) by omega]), by omega, by have h := HX3.out; rw [List.drop_drop, show xs.length - 4 - L = xs.length - (4 + L) by omega] at h; exact h⟩ (fun h => absurd rfl h)
theorem take_ok (p : PS) (F : Flds) (dv : Value) (g : Nat) (A : Option Addr) (c : Nat) (xs : List Int) (w w0 : World) (hx : BytesAt w0 A xs.length xs) (hu : u8s xs) (hc : xs.length ≤ c) (hbw : Below w0.heap.size w0 w) (hg0 : w0.heap.size ≤ g) (hf : Blk w g (F.cells dv) 118) (ho : Own w w0.heap.size (fun k => k ≠ g) dv F.data) (hbig : xs.length ≤ 1000000000) (hp : pok p) (hk : ∀ o k lo hi, p = .num o k lo hi → 1 ≤ k) (hdat : fdOf p = 4 → dv = .slice none 0 0 ∧ F.data = []) :
  Calls Try.prog 91 #[.agg #[.int .u8 (rp p).f0, .int .u8 (rp p).f1, .int .i64 (rp p).f2, .int .i64 (rp p).f3], .slice A xs.length c, pt g] w (TakePost w w0 g p xs F dv) := by
 cases p with
 | num o k lo hi =>
  obtain ⟨hk', _⟩ := hp
  have hk4 : k ≤ 4 := by omega
  have hk1 : 1 ≤ k := by omega
  cases o with
  | tn => exact take_T _ lo hi k F dv g A c xs w w0 hx hu hc hbw hg0 hf ho hbig (by rcases hk' with rfl | rfl | rfl <;> rfl) (by rcases hk' with rfl | rfl | rfl <;> rfl) (by rcases hk' with rfl | rfl | rfl <;> rfl) hk4 hk1
  | n => exact take_N _ lo hi k F dv g A c xs w w0 hx hu hc hbw hg0 hf ho hbig (by rcases hk' with rfl | rfl | rfl <;> rfl) (by rcases hk' with rfl | rfl | rfl <;> rfl) (by rcases hk' with rfl | rfl | rfl <;> rfl) hk4 hk1
  | m => exact take_M _ lo hi k F dv g A c xs w w0 hx hu hc hbw hg0 hf ho hbig (by rcases hk' with rfl | rfl | rfl <;> rfl) (by rcases hk' with rfl | rfl | rfl <;> rfl) (by rcases hk' with rfl | rfl | rfl <;> rfl) hk4 hk1
 | name => exact take_A F dv g A c xs w w0 hx hu hc hbw hg0 hf ho hbig
 | blob hi =>
  obtain ⟨h1, h2⟩ := hdat rfl
  exact take_D hi F dv g A c xs w w0 hx hu hc hbw hg0 hf ho h1 h2 hbig hp.1 hp.2
end Go.Proofs.Ytpflenaoplblkaa.PaF
end
