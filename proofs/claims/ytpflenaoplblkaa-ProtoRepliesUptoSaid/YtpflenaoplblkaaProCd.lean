import Derived.Test.YtpflenaoplblkaaProCe
import Derived.Test.YtpflenaoplblkaaProBb
import Derived.Deep.Cut
namespace Go.Proofs.Ytpflenaoplblkaa.ProCd
open Go.RowKit Go.Proofs.YtpflenaoplblkaaW.PrintWords Go.Proofs.YtpflenaoplblkaaW.PrintLast Go.Proofs.Ytpflenaoplblkaa.ProA Go.Proofs.Ytpflenaoplblkaa.ProB Go.Proofs.Ytpflenaoplblkaa.ProC Go.Proofs.Ytpflenaoplblkaa.ProI Go.Proofs.Ytpflenaoplblkaa.ProD Go.Proofs.Ytpflenaoplblkaa.ProE Go.Proofs.Ytpflenaoplblkaa.ProF Go.Proofs.Ytpflenaoplblkaa.ProG Go.Proofs.Ytpflenaoplblkaa.ProH Go.Proofs.Ytpflenaoplblkaa.ProJ Go.Proofs.Ytpflenaoplblkaa.ProK Go.Proofs.Ytpflenaoplblkaa.ProL Go.Proofs.Ytpflenaoplblkaa.ProM Go.Proofs.Ytpflenaoplblkaa.ProN Go.Proofs.Ytpflenaoplblkaa.ProO Go.Proofs.Ytpflenaoplblkaa.ProP Go.Proofs.Ytpflenaoplblkaa.ProQ Go.Proofs.Ytpflenaoplblkaa.ProR Go.Proofs.Ytpflenaoplblkaa.ProS Go.Proofs.Ytpflenaoplblkaa.ProT Go.Proofs.Ytpflenaoplblkaa.ProU Go.Proofs.Ytpflenaoplblkaa.ProV Go.Proofs.Ytpflenaoplblkaa.ProX Go.Proofs.Ytpflenaoplblkaa.ProZ Go.Proofs.Ytpflenaoplblkaa.ProBa Go.Proofs.Ytpflenaoplblkaa.ProCa Go.Proofs.Ytpflenaoplblkaa.ProBb Go.Proofs.Ytpflenaoplblkaa.ProCc Go.Proofs.Ytpflenaoplblkaa.ProCe
set_option linter.unusedVariables false
set_option linter.unusedSimpArgs false
def totR (l : List S44) : Nat := (l.map (fun M => 3 * M.f3.length + 68)).sum
theorem totR_take (l : List S44) (j : Nat) (h : j < l.length) : totR (l.take (j + 1)) = totR (l.take j) + (3 * l[j].f3.length + 68) := by
  unfold totR
  rw [List.take_succ_eq_append_getElem h, List.map_append, List.sum_append]
  simp
theorem totR_le (l : List S44) (j : Nat) : totR (l.take j) ≤ totR l := by
  unfold totR
  conv => rhs; rw [← List.take_append_drop j l]
  rw [List.map_append, List.sum_append]
  omega
def endsL (bss : List (List Int)) : List Int := (List.range bss.length).map fun k => (endOf bss (k + 1) : Int)
theorem endsL_len (bss : List (List Int)) : (endsL bss).length = bss.length := by simp [endsL]
theorem endOf_app (bss : List (List Int)) (b : List Int) (k : Nat) (h : k ≤ bss.length) : endOf (bss ++ [b]) k = endOf bss k := by
  unfold endOf
  rw [List.take_append_of_le_length h]
theorem endOf_all (bss : List (List Int)) (k : Nat) (h : bss.length ≤ k) : endOf bss k = bss.flatten.length := by
  unfold endOf
  rw [List.take_of_length_le h]
theorem endsL_snoc (bss : List (List Int)) (b : List Int) (L : Nat) (h : (bss.flatten ++ b).length = L) : endsL (bss ++ [b]) = endsL bss ++ [(L : Int)] := by
  unfold endsL
  rw [List.length_append, List.length_singleton, List.range_succ, List.map_append]
  congr 1
  · apply List.map_congr_left
    intro k hk
    rw [endOf_app _ _ _ (by have := List.mem_range.1 hk; omega)]
  · simp only [List.map_cons, List.map_nil]
    rw [endOf_all _ _ (by simp), List.flatten_append, List.flatten_cons, List.flatten_nil, List.append_nil, h]
theorem endOf_le (bss : List (List Int)) (i j : Nat) (h : i ≤ j) : endOf bss i ≤ endOf bss j := by
  unfold endOf
  have e : bss.take i = (bss.take j).take i := by rw [List.take_take]; congr 1; omega
  rw [e]
  conv => rhs; rw [← List.take_append_drop i (bss.take j)]
  rw [List.flatten_append, List.length_append]
  omega
theorem rd_ends (bss : List (List Int)) (k : Nat) (h : k < bss.length) : rd (endsL bss) (k : Int) = (endOf bss (k + 1) : Int) := by
  unfold rd endsL
  rw [Int.toNat_natCast, List.getD_eq_getElem?_getD, List.getElem?_map, List.getElem?_range h]
  rfl
theorem info3 : (Try.prog.info? 3).map (fun i => (i.zero, i.size, i.bytes)) = some (some (.int .i64 0), 1, 8) := by kernel_rfl
structure RepsSt (w w1 wr : World) (xs : List S44) (j : Nat) (av ev wv : Value) (sel : List S44) (bss : List (List Int)) : Prop where
  below : Below w1.heap.size w1 wr
  all : Own wr w1.heap.size (fun _ => True) av bss.flatten
  ends : Kd.R (Kd.int .i64) 3 wr w1.heap.size (fun _ => True) ev (endsL bss)
  want : Kd.R (kAt k44 w) 44 wr w1.heap.size (fun _ => True) wv sel
  enc : sel.map (fun M => encS repTab (fldR M)) = bss.map .ok
  u8 : u8s bss.flatten
  len : bss.flatten.length ≤ totR (xs.take j)
  cnt : sel.length ≤ j
theorem sel_len {sel : List S44} {bss : List (List Int)} (h : sel.map (fun M => encS repTab (fldR M)) = bss.map .ok) : sel.length = bss.length := by
  have := congrArg List.length h
  simpa using this
theorem busy : encS repTab (fldR ⟨2, 0, 0, []⟩) = .ok [0, 0, 0, 1, 2] := by
  have h : ByteArray.empty.toList.isEmpty = true := by simp [ByteArray.toList, ByteArray.toList.loop]
  simp [encS, repTab, fldR, encParts, clAll, emptyB, beB, h]
theorem rd_take (l : List S44) (m t : Nat) (h : t < m) : rd_T44 (l.take m) (t : Int) = rd_T44 l (t : Int) := by
  unfold rd_T44
  rw [Int.toNat_natCast, List.getD_eq_getElem?_getD, List.getD_eq_getElem?_getD, List.getElem?_take_of_lt h]
set_option maxHeartbeats 8000000 in
set_option maxRecDepth 100000 in
theorem replies_walk (A A2 : Option Addr) (c c2 : Nat) (cut : Int) (xs : List S44) (bs2 : List Int) (w : World) (hx : Kd.C k44 w A xs.length xs) (hc : xs.length ≤ c) (hu : ∀ M ∈ xs, u8s M.f3) (hm : ∀ M ∈ xs, M.f3.length ≤ 1048576) (hn : xs.length ≤ 1048576) (htot : totR xs ≤ 100000000)
    (hl : -9223372036854775808 ≤ cut ∧ cut ≤ 9223372036854775807) (hb : BytesAt w A2 bs2.length bs2) (hc2 : bs2.length ≤ c2) (hub : u8s bs2) (hbn : bs2.length ≤ 1048576) :
    Calls Try.prog 6 #[.slice A xs.length c, .int .i64 cut, .slice A2 bs2.length c2] w fun e w' => e = .returned (.bool true) ∧ Below w.heap.size w w' := by
  have HX := Lib.hid hx
  have HU := Lib.hid hu
  have HM := Lib.hid hm
  have HB := Lib.hid hb
  have HUB := Lib.hid hub
  clear hx hu hm hb hub
  go_enter Try.func6, Try.ntmps6
  go_wp2_with fail
  refine (fed_ok w).mono ?_
  rintro e w1 ⟨rfl, hb1⟩
  have HB1 := Lib.hid hb1
  have hs1 := hb1.size
  clear hb1
  go_wp2_with fail
  go_loopw [8, 9, 10, 11] (fun av ev wv i wr => ∃ (j : Nat) (sel : List S44) (bss : List (List Int)), j ≤ xs.length ∧ i = .int .i64 (j : Int) ∧ Hid (RepsSt w w1 wr xs j av ev wv sel bss)) (fun _ _ _ i _ => xs.length - (intOf i).toNat)
  case atStart => exact ⟨0, [], [], by omega, rfl, Lib.hid ⟨Below.refl _ _, Kd.R_nil _ _ _ _ _, Kd.R_nil _ _ _ _ _, Kd.R_nil _ _ _ _ _, rfl, u8n, by simp, by simp⟩⟩
  case round =>
    obtain ⟨j, sel, bss, hj, rfl, HS⟩ := hrel
    by_cases hlt : j < xs.length
    · have dl : decide ((j : Int) < (xs.length : Int)) = true := by simp; omega
      have hbw : Below w.heap.size w wr := HB1.out.trans (HS.out.below.mono hs1)
      obtain ⟨ad, Ad, cd, rfl, k0, k1, k2, k3, hcd, hrd⟩ := at_KR (R_kAt HX.out hbw) (j : Int) (by omega) (by omega)
      have hrdM : rd_T44 xs (j : Int) = xs[j] := by
        unfold rd_T44
        rw [Int.toNat_natCast, List.getD_eq_getElem?_getD, List.getElem?_eq_getElem hlt]
        rfl
      rw [hrdM] at k0 k1 k2 k3 hcd hrd
      rw [Int.toNat_natCast] at k0 k1 k2 k3
      have HUM := Lib.hid (HU.out xs[j] (List.getElem_mem hlt))
      have HMM := Lib.hid (HM.out xs[j] (List.getElem_mem hlt))
      have htk := totR_take xs j hlt
      have htl := totR_le xs (j + 1)
      have HTK := Lib.hid htk
      generalize xs[j] = M at k0 k1 k2 k3 hcd hrd HUM HMM HTK htk
      have hlenall := HS.out.len
      have hcnt := HS.out.cnt
      have hslen := sel_len HS.out.enc
      rw [htk] at htl
      generalize totR (List.take j xs) = tj at htl hlenall
      have HRD := Lib.hid hrd
      have HCD := Lib.hid hcd
      have hbl : ∀ {W : World} {q : Addr} {u : Value}, Below wr.heap.size wr W → wr.cell? q = some u → W.cell? q = some u := fun hb h => (hb.cell (World.block_lt_of_cell? wr _ h)).trans h
      have HBL : Hid (∀ (W : World) (q : Addr) (u : Value), Below wr.heap.size wr W → wr.cell? q = some u → W.cell? q = some u) := Lib.hid (fun _ _ _ => hbl)
      have HBW := Lib.hid hbw
      have HSLN := Lib.hid hslen
      clear hrd hrdM htk hbl hbw hcd hslen
      go_wp2_with fail
      have henc := EncodeReply_ok M Ad _ cd wr (BytesAt.below (B := 0) HRD.out HBW.out) (Nat.le_trans HMM.out (by omega))
      cases he : encS repTab (fldR M) with
      | error q =>
        rw [he] at henc
        refine henc.mono ?_
        rintro e w5 ⟨v5, code5, rfl, hb5, rfl, rfl⟩
        have hq := enc_err_code he
        have HB5 := Lib.hid hb5
        clear henc hb5 he k0 k1 k2 k3
        rcases hq with rfl | rfl
        all_goals
          go_wp2_with fail
          refine ⟨⟨j + 1, sel, bss, by omega, by go_num, Lib.hid ?_⟩, by simp [intOf]; omega⟩
          have hst := HS.out
          exact ⟨hst.below.trans (HB5.out.mono hst.below.size), Kd.R_below hst.all HB5.out, Kd.R_below hst.ends HB5.out, Kd.R_below hst.want HB5.out, hst.enc, hst.u8, by rw [HTK.out]; have := hst.len; omega, by have := hst.cnt; omega⟩
      | ok bs =>
        rw [he] at henc
        refine henc.mono ?_
        rintro e w5 ⟨v5, code5, rfl, hb5, rfl, ho5⟩
        obtain ⟨A6, c6, hv6, hc6, hr6⟩ := Kd.R_reads ho5
        subst hv6
        obtain ⟨hub, hlb⟩ := enc_facts he repTab_ok rep3 (by decide) HUM.out
        have HE := Lib.hid he
        have HUB6 := Lib.hid hub
        have HB5 := Lib.hid hb5
        have HR6 := Lib.hid hr6
        have hlb' : bs.length ≤ 3 * M.f3.length + 68 := hlb
        have HO5 := Lib.hid ho5
        clear henc hb5 he ho5 hr6 hc6 hub hlb
        have q0 := HBL.out _ _ _ HB5.out k0
        have q1 := HBL.out _ _ _ HB5.out k1
        have q2 := HBL.out _ _ _ HB5.out k2
        have q3 := HBL.out _ _ _ HB5.out k3
        clear k0 k1 k2 k3
        have HW5 := Lib.hid (HS.out.below.trans (HB5.out.mono HS.out.below.size))
        have hs5 := HW5.out.size
        have HW6 := Lib.hid (Kd.R_below HS.out.want HB5.out)
        have hrd7 : ∀ w7, w5.grownBy w7 u10.ownBlock → BytesAt w7 A6 bs.length bs := fun w7 hg => by
          obtain ⟨inner, ho⟩ := Kd.R_own HW6.out
          have h7 := row_grown HO5.out ho hg (fun q hq => by
            rcases List.mem_cons.1 hq with rfl | hq
            · decide
            · cases hq)
          obtain ⟨A2, c2, hv2, _, hr2⟩ := Kd.R_reads h7
          injection hv2 with e1 e2 e3
          subst e1
          exact hr2
        have hall7 : ∀ w7, w5.grownBy w7 u10.ownBlock → Own w7 w1.heap.size (fun _ => True) u8 bss.flatten := fun w7 hg => by
          obtain ⟨inner, ho⟩ := Kd.R_own HW6.out
          exact row_grown (Kd.R_below HS.out.all HB5.out) ho hg (fun q hq => by
            rcases List.mem_cons.1 hq with rfl | hq
            · decide
            · cases hq)
        have hend7 : ∀ w7, w5.grownBy w7 u10.ownBlock → Kd.R (Kd.int .i64) 3 w7 w1.heap.size (fun _ => True) u9 (endsL bss) := fun w7 hg => by
          obtain ⟨inner, ho⟩ := Kd.R_own HW6.out
          exact row_grown (Kd.R_below HS.out.ends HB5.out) ho hg (fun q hq => by
            rcases List.mem_cons.1 hq with rfl | hq
            · decide
            · cases hq)
        have HRD7 := Lib.hid hrd7
        have HALL7 := Lib.hid hall7
        have HEND7 := Lib.hid hend7
        clear hrd7 hall7 hend7
        have hbl8 : bss.flatten.length + bs.length ≤ 140737488355328 := by omega
        have hel : bss.length ≤ 1048576 := by have := HSLN.out; omega
        have HSL := Lib.hid (show (sel.length + 1) * 48 ≤ 140737488355328 by omega)
        have HEL := Lib.hid (show ((endsL bss).length + 1) * 8 ≤ 140737488355328 by rw [endsL_len]; omega)
        obtain ⟨L, hL⟩ : ∃ L : Nat, (bss.flatten ++ bs).length = L := ⟨_, rfl⟩
        have HL := Lib.hid hL
        have hL9 : L ≤ 140737488355328 := by rw [← hL, List.length_append]; exact hbl8
        clear hL
        go_wp2_with (first
          | ((with_reducible refine gate_builtin (b := .append) (xs := #[.tmp 49, .tmp 54]) rfl ?_); at_builtin; refine Kd.R_append (kAt k44 w) (w0 := w1) w1.heap.size rfl (.tmp 49) (.tmp 54) 41 44 (.agg #[.int .i64 0, .int .i64 0, .int .i64 0, .slice none 0 0]) 48 rfl Try.underlying41 info44 rfl (Nat.succ_pos 3) (Nat.succ_pos 47) u10 sel M [.int .i64 M.f0, .int .i64 M.f1, .int .i64 M.f2, .slice Ad M.f3.length cd] (fun _ => True) (fun _ => False) rfl rfl ?hp ?hokp (fun _ _ => trivial) ?hrow ?hbel ?hbase ?hl ?_; (case hp => exact k44_mk w M HCD.out HRD.out); (case hokp => exact fun k hk => hk.elim); (case hrow => exact Kd.R_below HS.out.want HB5.out); (case hbel => exact HW5.out); (case hbase => exact hs5); (case hl => exact HSL.out); intro v7 w7 hr7 hb7 hg7 hat7; have HR7 := Lib.hid hr7; have HW7 := Lib.hid hb7; have HG7 := Lib.hid hg7; clear hr7 hb7 hg7 hat7)
          | ((with_reducible refine gate_builtin (b := .append) (xs := #[.tmp 56, .tmp 57]) rfl ?_); at_builtin; refine app_bytes (w0 := w1) w1.heap.size rfl (.tmp 56) (.tmp 57) rfl u8 bss.flatten bs A6 bs.length c6 (fun _ => True) rfl rfl ?ho ?hr (fun _ _ => trivial) ?hbel ?hbase hbl8 ?_; (case ho => exact HALL7.out _ HG7.out); (case hr => exact HRD7.out _ HG7.out); (case hbel => exact HW7.out); (case hbase => exact HW7.out.size); intro v8 w8 hr8 hb8 hg8 hat8; have HG8 := Lib.hid hg8; obtain ⟨A8, c8, hv8, hcap8, hrd8⟩ := Kd.R_reads hr8; rw [HL.out] at hv8; subst hv8; have HR8 := Lib.hid hr8; have HW8 := Lib.hid hb8; clear hr8 hb8 hg8 hat8 hcap8 hrd8)
          | ((with_reducible refine gate_builtin (b := .append) (xs := #[.tmp 59, .tmp 62]) rfl ?_); at_builtin; refine Kd.R_append (Kd.int .i64) (w0 := w1) w1.heap.size rfl (.tmp 59) (.tmp 62) 23 3 (.int .i64 0) 8 rfl Try.underlying23 info3 rfl (Nat.succ_pos 0) (Nat.succ_pos 7) u9 (endsL bss) (L : Int) [.int .i64 (L : Int)] (fun _ => True) (fun _ => False) rfl rfl ?hp ?hokp (fun _ _ => trivial) ?hrow ?hbel ?hbase ?hl ?_; (case hp => rfl); (case hokp => exact fun k hk => hk.elim); (case hrow => exact (row_ends (HEND7.out _ HG7.out) (HALL7.out _ HG7.out) HG8.out)); (case hbel => exact HW8.out); (case hbase => exact HW8.out.size); (case hl => exact HEL.out); intro v9 w9 hr9 hb9 hg9 hat9; have HR9 := Lib.hid hr9; have HW9 := Lib.hid hb9; have HG9 := Lib.hid hg9; clear hr9 hb9 hg9 hat9))
        refine ⟨⟨j + 1, sel ++ [M], bss ++ [bs], by omega, by go_num, Lib.hid ?_⟩, by simp [intOf]; omega⟩
        have hst := HS.out
        have hf : (bss ++ [bs]).flatten = bss.flatten ++ bs := by rw [List.flatten_append, List.flatten_cons, List.flatten_nil, List.append_nil]
        obtain ⟨inner, ho⟩ := Kd.R_own (HALL7.out _ HG7.out)
        obtain ⟨inner2, ho2⟩ := Kd.R_own (row_ends (HEND7.out _ HG7.out) (HALL7.out _ HG7.out) HG8.out)
        refine ⟨HW9.out, ?_, ?_, ?_, ?_, ?_, ?_, ?_⟩
        · rw [hf]
          exact row_grown HR8.out ho2 HG9.out (fun q hq => by
            rcases List.mem_cons.1 hq with rfl | hq
            · decide
            · cases hq)
        · rw [endsL_snoc bss bs L HL.out]
          exact HR9.out
        · exact row_grown (row_grown HR7.out ho HG8.out (fun q hq => by
            rcases List.mem_cons.1 hq with rfl | hq
            · decide
            · cases hq)) ho2 HG9.out (fun q hq => by
            rcases List.mem_cons.1 hq with rfl | hq
            · decide
            · cases hq)
        · rw [List.map_append, List.map_append, hst.enc]
          simp [HE.out]
        · rw [hf]
          exact u8_app hst.u8 HUB6.out
        · rw [HTK.out, hf, List.length_append]
          have := hst.len
          omega
        · rw [List.length_append, List.length_singleton]
          have := hst.cnt
          omega
    · have hjx : j = xs.length := by omega
      subst hjx
      have dl : decide ((xs.length : Int) < (xs.length : Int)) = false := by simp
      have hlenall := HS.out.len
      rw [List.take_length] at hlenall
      have hcnt := HS.out.cnt
      have hslen := sel_len HS.out.enc
      rw [hslen] at hcnt
      have hs2 := HS.out.below.size
      obtain ⟨A6, c6, hv6, hc6, hr6⟩ := Kd.R_reads HS.out.all
      obtain ⟨A7, c7, hv7, hc7, hr7⟩ := Kd.R_reads HS.out.ends
      obtain ⟨A8, c8, hv8, hc8, hr8⟩ := Kd.R_reads HS.out.want
      obtain ⟨N, hN⟩ : ∃ N : Nat, bss.flatten.length = N := ⟨_, rfl⟩
      rw [hN] at hv6 hc6 hr6 hlenall
      rw [endsL_len] at hv7 hc7 hr7
      rw [hslen] at hv8 hc8 hr8
      subst hv6 hv7 hv8
      have HN := Lib.hid hN
      have HR6 := Lib.hid hr6
      have HR7 := Lib.hid hr7
      have HR8 := Lib.hid hr8
      have HU8 := Lib.hid HS.out.u8
      have HENC := Lib.hid HS.out.enc
      have HSLN := Lib.hid hslen
      have HBR := Lib.hid (HB1.out.trans (HS.out.below.mono hs1))
      clear hr6 hr7 hr8 HS hc7 hc8 hN hslen
      go_wp2_with fail
      have hb := EncodeReply_ok ⟨2, 0, 0, []⟩ none 0 0 wr (c_nil (Kd.int .u8) _ _) (by omega)
      rw [busy] at hb
      refine hb.mono ?_
      clear hb
      rintro e w2 ⟨v2, code2, rfl, hb2, rfl, ho2⟩
      obtain ⟨A9, c9, hv9, _, _⟩ := Kd.R_reads ho2
      obtain rfl : v2 = .slice A9 5 c9 := hv9
      have HB2 := Lib.hid hb2
      have hs3 := hb2.size
      clear hb2 ho2
      go_wp2_with fail
      refine (pick_ok cut ((N : Int) + 1) w2 hl (by omega) (by omega)).mono ?_
      rintro e w' ⟨r, rfl, hr0, hr1, rfl⟩
      obtain ⟨n, rfl⟩ := Int.eq_ofNat_of_zero_le hr0
      obtain ⟨i5, hi5, hz5⟩ := info5'
      obtain ⟨hrun, hread, hcap⟩ := print_take_int (P := Try.prog) (k := .u8) 22 5 Try.underlying22 hi5 hz5 A6 c6 bss.flatten (n : Int) (by omega) (by rw [HN.out]; omega) (by rw [HN.out]; exact hc6)
      rw [HN.out, Int.toNat_natCast] at hrun
      rw [Int.toNat_natCast] at hread
      obtain ⟨m, hm0, hm1, hm2⟩ := where_ bss n bss.length
      have HM2 := Lib.hid hm2
      have hrep := rep_part repTab_back (sel.map fldR) bss (by rw [List.map_map]; exact HENC.out) n m hm0 hm1 (fun h => hm2 (m + 1) (by omega) (by omega))
      have HU1 := Lib.hid (show u8s (bss.flatten.take n) from fun x hx => HU8.out x (List.mem_of_mem_take hx))
      have hpl : (bss.flatten.take n).length = n := by rw [List.length_take, HN.out]; omega
      have HX1 : Hid (BytesAt (w2.alloc (.cells #[] 5)) A6 n (bss.flatten.take n)) := Lib.hid (by
        have h := BytesAt.of (hread (w2.alloc (.cells #[] 5)) (BytesAt.nums (HN.out.symm ▸ BytesAt.below (B := 0) HR6.out (HB2.out.alloc hs3 _))))
        rw [hpl] at h
        exact h)
      generalize bss.flatten.take n = p1 at hrep hread HX1 HU1 hpl
      subst hpl
      clear hread hcap hm2 hrun
      have hp9 : p1.length ≤ N := by omega
      have HREP := Lib.hid hrep
      clear hrep
      go_wp2_with (at_builtin; refine app_bytes (w0 := w2) w2.heap.size rfl (.tmp 75) (.tmp 78) rfl _ [] p1 A6 p1.length c6 (fun _ => True) rfl rfl (own_empty w2 w2.heap.size _ (Nat.le_refl _) trivial) HX1.out (fun _ _ => trivial) (ba _) (by simp) (by simp; omega) ?_; intro v3 w3 ho3 hb3 hg3 hat3; have HO3 := Lib.hid ho3; have HB3 := Lib.hid hb3; clear ho3 hb3 hg3 hat3)
      obtain ⟨A3, c3, hv3, hc3, hr3⟩ := Kd.R_reads HO3.out
      subst hv3
      have hs4 := HB3.out.size
      have hd := decodeReplies_ok w3 c3 p1 A3 hr3 hc3 HU1.out (by omega)
      rw [HREP.out] at hd
      refine hd.mono ?_
      clear hd hr3 hc3
      rintro e w4 ⟨lv, he4, hr4, hb4⟩
      simp only at he4 hr4
      have hsm : ((sel.map fldR).take m).map repOf = sel.take m := by
        rw [← List.map_take, List.map_map]
        conv => rhs; rw [← List.map_id (sel.take m)]
        exact List.map_congr_left fun x _ => rfl
      rw [hsm] at hr4
      obtain ⟨A10, c10, hv10, hc10, hC10⟩ := Kd.R_reads hr4
      have hlm : (sel.take m).length = m := by rw [List.length_take, HSLN.out]; omega
      rw [hlm] at hv10 hc10 hC10
      subst hv10
      subst he4
      have HB4 := Lib.hid ((HB2.out.trans (HB3.out.mono hs3)).trans (hb4.mono (Nat.le_trans hs3 hs4)))
      have HC1 := Lib.hid (R_kAt hC10 (Below.refl _ _))
      have HC2 := Lib.hid (Kd.C_below HR8.out HB4.out)
      have HC7 := Lib.hid (Kd.C_below HR7.out HB4.out)
      have hs5 := HB4.out.size
      clear hb4 hr4 hC10 hc10 hsm hlm HO3 HB3 HX1
      go_wp2_with fail
      go_loop [20, 21, 22] (fun mv ev iv => ∃ i : Nat, i ≤ bss.length ∧ iv = .int .i64 (i : Int) ∧ mv = .int .i64 ((min i m : Nat) : Int) ∧ ev = .int .i64 ((endOf bss (min i m) : Nat) : Int)) (fun _ _ iv => bss.length - (intOf iv).toNat)
      case atStart => exact ⟨0, by omega, rfl, by simp, by simp [endOf]⟩
      case round =>
        obtain ⟨i, hi, rfl, rfl, rfl⟩ := hrel
        by_cases hlt : i < bss.length
        · have di : decide ((i : Int) < (bss.length : Int)) = true := by simp; omega
          obtain ⟨ad, rfl, k0⟩ := Kd.at_int HC7.out (i : Int) (by omega) (by omega)
          rw [rd_ends bss i hlt, Int.toNat_natCast] at k0
          by_cases him : i < m
          · have hle := Nat.le_trans (endOf_le bss (i + 1) m (by omega)) hm1
            have dn : decide (((endOf bss (i + 1) : Nat) : Int) ≤ (p1.length : Int)) = true := by simp; omega
            go_wp2_with fail
            refine ⟨⟨i + 1, by omega, by go_num, ?_, ?_⟩, by simp [intOf]; omega⟩
            · rw [show min (i + 1) m = i + 1 by omega]; go_num
            · rw [show min (i + 1) m = i + 1 by omega]
          · have hle := HM2.out (i + 1) (by omega) (by omega)
            have dn : decide (((endOf bss (i + 1) : Nat) : Int) ≤ (p1.length : Int)) = false := by simp; omega
            go_wp2_with fail
            refine ⟨⟨i + 1, by omega, by go_num, ?_, ?_⟩, by simp [intOf]; omega⟩
            · rw [show min (i + 1) m = min i m by omega]
            · rw [show min (i + 1) m = min i m by omega]
        · have hi' : i = bss.length := by omega
          subst hi'
          have di : decide ((bss.length : Int) < (bss.length : Int)) = false := by simp
          rw [Nat.min_eq_right hm0]
          go_wp2_with fail
          go_loopw [23, 24] (fun i al wq => ∃ t : Nat, t ≤ m ∧ i = .int .i64 (t : Int) ∧ Hid (Below w4.heap.size w4 wq)) (fun i _ _ => m - (intOf i).toNat)
          case atStart => exact ⟨0, by omega, rfl, Lib.hid (Below.refl _ _)⟩
          case round =>
            obtain ⟨wq, rfl⟩ : ∃ wq : World, wq = wr := ⟨_, rfl⟩
            obtain ⟨t, ht, rfl, HBq⟩ := hrel
            by_cases hlt : t < m
            · have dt : decide ((t : Int) < (m : Int)) = true := by simp; omega
              have htb : t < bss.length := by omega
              obtain ⟨ad, Ad, cd, rfl, k0, k1, k2, k3, _, hrd⟩ := at_KR (Kd.C_below HC1.out HBq.out) (t : Int) (by omega) (by omega)
              obtain ⟨bd, Bd, dd, rfl, j0, j1, j2, j3, _, hrd2⟩ := at_KR (Kd.C_below HC2.out HBq.out) (t : Int) (by omega) (by omega)
              rw [rd_take sel m t hlt] at k0 k1 k2 k3 hrd
              rw [Int.toNat_natCast] at k0 k1 k2 k3 j0 j1 j2 j3
              generalize hM : rd_T44 sel (t : Int) = M at k0 k1 k2 k3 j0 j1 j2 j3 hrd hrd2
              have HRA := Lib.hid (BytesAt.below (B := 0) hrd (HBq.out.trans (Below.drew (Below.refl _ _) |>.mono HBq.out.size)))
              have HRB := Lib.hid (BytesAt.below (B := 0) hrd2 (HBR.out.trans ((HB4.out.trans (HBq.out.mono HB4.out.size)).mono HBR.out.size) |>.trans (Below.drew (Below.refl _ _))))
              have HK := Lib.hid (And.intro k0 (And.intro k1 (And.intro k2 (And.intro k3 (And.intro j0 (And.intro j1 (And.intro j2 j3)))))))
              clear hrd hrd2 hM k0 k1 k2 k3 j0 j1 j2 j3
              go_wp2_with fail
              refine start_ (n := 10) (S := fun w' => w'.cell? (ad.add (t * 4)) = some (.int .i64 M.f0) ∧ w'.cell? ⟨(ad.add (t * 4)).block, (ad.add (t * 4)).off + 1, none⟩ = some (.int .i64 M.f1) ∧ w'.cell? ⟨(ad.add (t * 4)).block, (ad.add (t * 4)).off + 2, none⟩ = some (.int .i64 M.f2) ∧ w'.cell? ⟨(ad.add (t * 4)).block, (ad.add (t * 4)).off + 3, none⟩ = some (.slice Ad M.f3.length cd) ∧ w'.cell? (bd.add (t * 4)) = some (.int .i64 M.f0) ∧ w'.cell? ⟨(bd.add (t * 4)).block, (bd.add (t * 4)).off + 1, none⟩ = some (.int .i64 M.f1) ∧ w'.cell? ⟨(bd.add (t * 4)).block, (bd.add (t * 4)).off + 2, none⟩ = some (.int .i64 M.f2) ∧ w'.cell? ⟨(bd.add (t * 4)).block, (bd.add (t * 4)).off + 3, none⟩ = some (.slice Bd M.f3.length dd)) (ds := [8]) #[false, false, false, false, false, false, false, false, false, false] (by kernel_rfl) rfl rfl HK.out (fun hHeld => ?_)
              refine pure_ (i := 0) (N := some 132) (v := ?_) (a' := ?_) #[true, false, false, false, false, false, false, false, false, false] rfl rfl (by kernel_rfl) (fun _ _ _ h => h) (Or.inl ⟨by rfl, ?_⟩) ?_ ?_
              rotate_left
              · intro w'
                go_simp
                with_reducible rfl
              rotate_left
              · simp only [Act.put, List.setIfInBounds_toArray, List.set_cons_zero, List.set_cons_succ, i64_w, i32_w]
                rfl
              refine pure_ (i := 1) (N := some 133) (v := ?_) (a' := ?_) #[true, true, false, false, false, false, false, false, false, false] rfl rfl (by kernel_rfl) (fun _ _ _ h => h) (Or.inl ⟨by rfl, ?_⟩) ?_ ?_
              rotate_left
              · intro w'
                go_simp
                with_reducible rfl
              rotate_left
              · simp only [Act.put, List.setIfInBounds_toArray, List.set_cons_zero, List.set_cons_succ, i64_w, i32_w]
                rfl
              refine pure_ (i := 2) (N := some 134) (v := ?_) (a' := ?_) #[true, true, true, false, false, false, false, false, false, false] rfl rfl (by kernel_rfl) (fun _ _ _ h => h) (Or.inl ⟨by rfl, ?_⟩) ?_ ?_
              rotate_left
              · intro w'
                go_simp
                with_reducible rfl
              rotate_left
              · simp only [Act.put, List.setIfInBounds_toArray, List.set_cons_zero, List.set_cons_succ, i64_w, i32_w]
                rfl
              refine take_ (i := 3) (N := some 135) (v := ?_) (a' := ?_) #[true, true, true, true, false, false, false, false, false, false] rfl rfl (by kernel_rfl) (fun _ _ _ h => h) (Or.inl ⟨by rfl, ?_⟩) hHeld ?_ ?_
              rotate_left
              · intro w' s0
                go_simp
                with_reducible rfl
              rotate_left
              · simp only [Act.put, List.setIfInBounds_toArray, List.set_cons_zero, List.set_cons_succ, i64_w, i32_w]
                rfl
              refine pure_ (i := 4) (N := some 136) (v := ?_) (a' := ?_) #[true, true, true, true, true, false, false, false, false, false] rfl rfl (by kernel_rfl) (fun _ _ _ h => h) (Or.inl ⟨by rfl, ?_⟩) ?_ ?_
              rotate_left
              · intro w'
                go_simp
                with_reducible rfl
              rotate_left
              · simp only [Act.put, List.setIfInBounds_toArray, List.set_cons_zero, List.set_cons_succ, i64_w, i32_w]
                rfl
              refine pure_ (i := 5) (N := some 137) (v := ?_) (a' := ?_) #[true, true, true, true, true, true, false, false, false, false] rfl rfl (by kernel_rfl) (fun _ _ _ h => h) (Or.inl ⟨by rfl, ?_⟩) ?_ ?_
              rotate_left
              · intro w'
                go_simp
                with_reducible rfl
              rotate_left
              · simp only [Act.put, List.setIfInBounds_toArray, List.set_cons_zero, List.set_cons_succ, i64_w, i32_w]
                rfl
              refine pure_ (i := 6) (N := some 138) (v := ?_) (a' := ?_) #[true, true, true, true, true, true, true, false, false, false] rfl rfl (by kernel_rfl) (fun _ _ _ h => h) (Or.inl ⟨by rfl, ?_⟩) ?_ ?_
              rotate_left
              · intro w'
                go_simp
                with_reducible rfl
              rotate_left
              · simp only [Act.put, List.setIfInBounds_toArray, List.set_cons_zero, List.set_cons_succ, i64_w, i32_w]
                rfl
              refine take_ (i := 7) (N := some 139) (v := ?_) (a' := ?_) #[true, true, true, true, true, true, true, true, false, false] rfl rfl (by kernel_rfl) (fun _ _ _ h => h) (Or.inl ⟨by rfl, ?_⟩) hHeld ?_ ?_
              rotate_left
              · intro w' s0
                go_simp
                with_reducible rfl
              rotate_left
              · simp only [Act.put, List.setIfInBounds_toArray, List.set_cons_zero, List.set_cons_succ, i64_w, i32_w]
                rfl
              refine last_ (i := 8) (N := some 140) #[true, true, true, true, true, true, true, true, true, false] rfl rfl (by kernel_rfl) (by decide) (fun K hK => ?_)
              refine goesV #[] Try.func18 (by kernel_rfl) rfl #[.agg #[.int .i64 M.f0, .int .i64 M.f1, .int .i64 M.f2, .slice Ad M.f3.length cd], .agg #[.int .i64 M.f0, .int .i64 M.f1, .int .i64 M.f2, .slice Bd M.f3.length dd]] (by rfl) rfl rfl rfl (by simp [Act.eval]) ?_
              refine Calls.mono (sameReply_yes M Ad Bd _ _ cd dd _ HRA.out HRB.out) ?_
              rintro e w9 ⟨rfl, hb9⟩
              have HB9 := Lib.hid (HBq.out.trans ((Below.trans (Below.drew (Below.refl _ _)) (hb9.mono (Nat.le_refl _))).mono HBq.out.size))
              clear hb9
              refine .inl ⟨_, rfl, ?_⟩
              refine hK.out _ _ ?_
              clear hK K
              refine norm_ (a' := ?_) ?_ ?_
              rotate_left
              · show Act.put _ (some 140) _ = _
                simp only [Act.put, List.setIfInBounds_toArray, List.set_cons_zero, List.set_cons_succ, i64_w, i32_w]
                rfl
              refine pure_ (i := 9) (N := some 24) (v := ?_) (a' := ?_) #[true, true, true, true, true, true, true, true, true, true] rfl rfl (by kernel_rfl) (fun _ _ _ h => h) (Or.inl ⟨by rfl, ?_⟩) ?_ ?_
              rotate_left
              · intro w'
                go_simp
                with_reducible rfl
              rotate_left
              · simp only [Act.put, List.setIfInBounds_toArray, List.set_cons_zero, List.set_cons_succ, i64_w, i32_w]
                rfl
              refine done_ (by kernel_rfl) ?_
              go_wp2_with fail
              exact ⟨⟨t + 1, by omega, by go_num, HB9⟩, by simp [intOf]; omega⟩
            · have dt : decide ((t : Int) < (m : Int)) = false := by simp; omega
              have HBD := Lib.hid (HBR.out.trans ((HB4.out.trans (HBq.out.mono HB4.out.size)).mono HBR.out.size))
              have hsq := HBD.out.size
              clear HC1 HC2 HC7 HREP HR6 HR7 HR8 HENC HM2
              obtain ⟨he1, he2, he3⟩ := rep_enc (bs2.length + 1) bs2 (by omega) HUB.out
              have hxq : BytesAt wq A2 bs2.length bs2 := BytesAt.below (B := 0) HB.out HBD.out
              have HXQ := Lib.hid hxq
              generalize hrr : repS repTab bs2 = rr at he1 he2 he3
              obtain ⟨ms, at2, code2⟩ := rr
              simp only at he1 he2 he3
              have HE1 := Lib.hid he1
              have HE2 := Lib.hid he2
              have HE3 := Lib.hid he3
              have HRR := Lib.hid hrr
              have hall : (encRs ms).length ≤ bs2.length := by
                obtain ⟨r, h3⟩ := he3
                rw [h3, List.length_append]
                omega
              have hml : ms.length ≤ bs2.length := Nat.le_trans (encRs_len ms (fun F hF => by obtain ⟨bs, h1, _⟩ := he1 F hF; exact ⟨bs, h1⟩)) hall
              have hat : at2 ≤ bs2.length := by rw [he2]; exact hall
              clear he1 he2 he3 hrr hxq
              go_wp2_with (at_builtin; refine app_bytes (w0 := wq) wq.heap.size rfl (.tmp 144) (.tmp 145) rfl _ [] bs2 A2 bs2.length c2 (fun _ => True) rfl rfl (own_empty wq wq.heap.size _ (Nat.le_refl _) trivial) (BytesAt.below (B := 0) HXQ.out (ba _)) (fun _ _ => trivial) (ba _) (by simp) (by simp; omega) ?_; intro v5 w5 ho5 hb5 hg5 hat5; have HO5 := Lib.hid ho5; have HB5 := Lib.hid hb5; clear ho5 hb5 hg5 hat5)
              obtain ⟨A5, c5, hv5, hc5, hr5⟩ := Kd.R_reads HO5.out
              subst hv5
              have hs6 := HB5.out.size
              have hd := decodeReplies_ok w5 c5 bs2 A5 hr5 hc5 HUB.out (by omega)
              rw [HRR.out] at hd
              refine hd.mono ?_
              clear hd hr5 hc5
              rintro e w6 ⟨lv, he6, hr6, hb6⟩
              simp only at he6 hr6
              obtain ⟨A12, c12, hv12, _, hC12⟩ := Kd.R_reads hr6
              rw [List.length_map] at hv12 hC12
              subst hv12
              subst he6
              have HB6 := Lib.hid ((HBD.out.trans (HB5.out.mono hsq)).trans (hb6.mono (Nat.le_trans hsq hs6)))
              have HM6 := Lib.hid hC12
              have hs7 := HB6.out.size
              clear hr6 hb6 hC12 HO5 HB5
              go_wp2_with fail
              go_loopw [28, 29] (fun l t wr => ∃ i : Nat, i ≤ ms.length ∧ t = .int .i64 (i : Int) ∧ Hid (Below w6.heap.size w6 wr) ∧ Hid (Own wr w6.heap.size (fun _ => True) l (encRs (ms.take i)))) (fun _ t _ => ms.length - (intOf t).toNat)
              case atStart => exact ⟨0, by omega, rfl, Lib.hid (Below.refl _ _), Lib.hid (Kd.R_nil _ _ _ _ _)⟩
              case round =>
                obtain ⟨wz, rfl⟩ : ∃ wz : World, wz = wr := ⟨_, rfl⟩
                obtain ⟨i, hi, rfl, HBr, HOr⟩ := hrel
                by_cases hlt : i < ms.length
                · have dl : decide ((i : Int) < (ms.length : Int)) = true := by simp; omega
                  obtain ⟨bs, he1, he2⟩ := HE1.out ms[i] (List.getElem_mem hlt)
                  obtain ⟨ad, Ad, cd, rfl, k0, k1, k2, k3, hcd, hrd⟩ := at_KR (R_kAt (Kd.C_below HM6.out HBr.out) (Below.refl _ _)) (i : Int) (by omega) (by omega)
                  have hrdM : rd_T44 (ms.map repOf) (i : Int) = repOf ms[i] := by
                    unfold rd_T44
                    rw [Int.toNat_natCast, List.getD_eq_getElem?_getD, List.getElem?_map, List.getElem?_eq_getElem hlt]
                    rfl
                  rw [hrdM] at k0 k1 k2 k3 hcd hrd
                  rw [Int.toNat_natCast] at k0 k1 k2 k3
                  have HRDD := Lib.hid hrd
                  have HEE1 := Lib.hid he1
                  have HEE2 := Lib.hid he2
                  have hlenb := encRs_pre ms (i + 1)
                  rw [encRs_take ms i hlt bs he1, List.length_append] at hlenb
                  have hdl := (enc_data he1).1
                  have hd2 : (repOf ms[i]).f3.length ≤ 1000000000 := by
                    show ms[i].data.length ≤ _
                    omega
                  clear hrd he1 he2 hrdM
                  go_wp2_with fail
                  have henc := EncodeReply_ok (repOf ms[i]) Ad _ cd wz HRDD.out hd2
                  rw [HEE2.out, HEE1.out] at henc
                  refine henc.mono ?_
                  rintro e w7 ⟨v7, code7, rfl, hb7, rfl, ho7⟩
                  obtain ⟨A9, c9, hv9, hc9, hr9⟩ := Kd.R_reads ho7
                  subst hv9
                  have HO7 := Lib.hid (Kd.R_below HOr.out hb7)
                  have HR9 := Lib.hid hr9
                  have HB7 := Lib.hid (HBr.out.trans (hb7.mono HBr.out.size))
                  clear henc ho7 hr9 hb7 hc9 hd2 hdl
                  go_wp2_with (at_builtin; refine app_bytes (w0 := w6) w6.heap.size rfl (.tmp 167) (.tmp 168) rfl u28 _ bs A9 bs.length c9 (fun _ => True) rfl rfl HO7.out HR9.out (fun _ _ => trivial) HB7.out HB7.out.size (by omega) ?_; intro v8 w8 ho8 hb8 hg8 hat8; have HO8 := Lib.hid ho8; have HB8 := Lib.hid hb8; clear ho8 hb8 hg8 hat8)
                  refine ⟨⟨i + 1, by omega, by go_num, HB8, Lib.hid ?_⟩, by simp [intOf]; omega⟩
                  rw [encRs_take ms i hlt bs HEE1.out]
                  exact HO8.out
                · have hii : i = ms.length := by omega
                  have dl : decide ((i : Int) < (ms.length : Int)) = false := by simp; omega
                  have htk : ms.take i = ms := by rw [hii, List.take_length]
                  have ho := HOr.out
                  rw [htk] at ho
                  obtain ⟨A13, c13, hv13, hc13, hr13⟩ := Kd.R_reads ho
                  rw [← HE2.out] at hv13 hc13 hr13
                  subst hv13
                  have hpre : bs2.take at2 = encRs ms := by
                    obtain ⟨r, h3⟩ := HE3.out
                    rw [HE2.out, h3, List.take_left']
                    rfl
                  have d0 : decide ((at2 : Int) ≥ 0) = true := by simp
                  have d1 : decide ((at2 : Int) ≤ (bs2.length : Int)) = true := by simp; omega
                  have d2 : decide (at2 ≤ bs2.length) = true := by simp; omega
                  obtain ⟨i5, hi5, hz5⟩ := info5'
                  obtain ⟨hrun, hread, hcap⟩ := print_take_int (P := Try.prog) (k := .u8) 22 5 Try.underlying22 hi5 hz5 A2 c2 bs2 (at2 : Int) (by omega) (by omega) hc2
                  rw [Int.toNat_natCast] at hrun hread
                  have hxr : BytesAt wz A2 bs2.length bs2 := BytesAt.below (B := 0) (BytesAt.below (B := 0) HB.out HB6.out) HBr.out
                  have hq1 := conv_str (c := c13) (BytesAt.below (B := 0) hr13 (Below.drew (Below.refl _ _)))
                  have hq2 := conv_str (c := c2) (BytesAt.of (hread wz.drew (BytesAt.nums (BytesAt.below (B := 0) hxr (Below.drew (Below.refl _ _))))))
                  rw [hpre] at hrun hread hq2
                  rw [← HE2.out] at hrun hq2
                  have HQ1 := Lib.hid hq1
                  have HQ2 := Lib.hid hq2
                  have HBE := Lib.hid (HB6.out.trans (HBr.out.mono hs7))
                  clear HOr ho hr13 hread hxr hq1 hq2 hpre htk hii
                  go_wp2_with fail
                  refine start_ (n := 18) (S := fun w' => (convert 22 9 (.slice A13 at2 c13)).run Try.prog w' = .ok (.string (strOfNums (encRs ms))) w' ∧ (convert 22 9 (.slice A2 at2 c2)).run Try.prog w' = .ok (.string (strOfNums (encRs ms))) w') (ds := []) #[false, false, false, false, false, false, false, false, false, false, false, false, false, false, false, false, false, false] (by kernel_rfl) rfl rfl ⟨HQ1.out, HQ2.out⟩ (fun hHeld => ?_)
                  refine pure_ (i := 0) (N := some 170) (v := ?_) (a' := ?_) #[true, false, false, false, false, false, false, false, false, false, false, false, false, false, false, false, false, false] rfl rfl (by kernel_rfl) (fun _ _ _ h => h) (Or.inl ⟨by rfl, ?_⟩) ?_ ?_
                  rotate_left
                  · intro w'
                    go_simp
                    with_reducible rfl
                  rotate_left
                  · simp only [Act.put, List.setIfInBounds_toArray, List.set_cons_zero, List.set_cons_succ, i64_w, i32_w]
                    rfl
                  refine pure_ (i := 1) (N := some 171) (v := ?_) (a' := ?_) #[true, true, false, false, false, false, false, false, false, false, false, false, false, false, false, false, false, false] rfl rfl (by kernel_rfl) (fun _ _ _ h => h) (Or.inl ⟨by rfl, ?_⟩) ?_ ?_
                  rotate_left
                  · intro w'
                    go_simp
                    with_reducible rfl
                  rotate_left
                  · simp only [Act.put, List.setIfInBounds_toArray, List.set_cons_zero, List.set_cons_succ, i64_w, i32_w]
                    rfl
                  refine pure_ (i := 2) (N := some 172) (v := ?_) (a' := ?_) #[true, true, true, false, false, false, false, false, false, false, false, false, false, false, false, false, false, false] rfl rfl (by kernel_rfl) (fun _ _ _ h => h) (Or.inl ⟨by rfl, ?_⟩) ?_ ?_
                  rotate_left
                  · intro w'
                    go_simp
                    with_reducible rfl
                  rotate_left
                  · simp only [Act.put, List.setIfInBounds_toArray, List.set_cons_zero, List.set_cons_succ, i64_w, i32_w]
                    rfl
                  refine pure_ (i := 3) (N := some 173) (v := ?_) (a' := ?_) #[true, true, true, true, false, false, false, false, false, false, false, false, false, false, false, false, false, false] rfl rfl (by kernel_rfl) (fun _ _ _ h => h) (Or.inl ⟨by rfl, ?_⟩) ?_ ?_
                  rotate_left
                  · intro w'
                    go_simp
                    with_reducible rfl
                  rotate_left
                  · simp only [Act.put, List.setIfInBounds_toArray, List.set_cons_zero, List.set_cons_succ, i64_w, i32_w]
                    rfl
                  refine pure_ (i := 4) (N := some 174) (v := ?_) (a' := ?_) #[true, true, true, true, true, false, false, false, false, false, false, false, false, false, false, false, false, false] rfl rfl (by kernel_rfl) (fun _ _ _ h => h) (Or.inl ⟨by rfl, ?_⟩) ?_ ?_
                  rotate_left
                  · intro w'
                    go_simp
                    with_reducible rfl
                  rotate_left
                  · simp only [Act.put, List.setIfInBounds_toArray, List.set_cons_zero, List.set_cons_succ, i64_w, i32_w]
                    rfl
                  refine pure_ (i := 5) (N := some 175) (v := ?_) (a' := ?_) #[true, true, true, true, true, true, false, false, false, false, false, false, false, false, false, false, false, false] rfl rfl (by kernel_rfl) (fun _ _ _ h => h) (Or.inl ⟨by rfl, ?_⟩) ?_ ?_
                  rotate_left
                  · intro w'
                    go_simp
                    with_reducible rfl
                  rotate_left
                  · simp only [Act.put, List.setIfInBounds_toArray, List.set_cons_zero, List.set_cons_succ, i64_w, i32_w]
                    rfl
                  refine pure_ (i := 6) (N := some 176) (v := ?_) (a' := ?_) #[true, true, true, true, true, true, true, false, false, false, false, false, false, false, false, false, false, false] rfl rfl (by kernel_rfl) (fun _ _ _ h => h) (Or.inl ⟨by rfl, ?_⟩) ?_ ?_
                  rotate_left
                  · intro w'
                    go_simp
                    with_reducible rfl
                  rotate_left
                  · simp only [Act.put, List.setIfInBounds_toArray, List.set_cons_zero, List.set_cons_succ, i64_w, i32_w]
                    rfl
                  refine pure_ (i := 7) (N := some 177) (v := ?_) (a' := ?_) #[true, true, true, true, true, true, true, true, false, false, false, false, false, false, false, false, false, false] rfl rfl (by kernel_rfl) (fun _ _ _ h => h) (Or.inl ⟨by rfl, ?_⟩) ?_ ?_
                  rotate_left
                  · intro w'
                    go_simp
                    with_reducible rfl
                  rotate_left
                  · simp only [Act.put, List.setIfInBounds_toArray, List.set_cons_zero, List.set_cons_succ, i64_w, i32_w]
                    rfl
                  refine pure_ (i := 8) (N := some 178) (v := ?_) (a' := ?_) #[true, true, true, true, true, true, true, true, true, false, false, false, false, false, false, false, false, false] rfl rfl (by kernel_rfl) (fun _ _ _ h => h) (Or.inl ⟨by rfl, ?_⟩) ?_ ?_
                  rotate_left
                  · intro w'
                    go_simp
                    with_reducible rfl
                  rotate_left
                  · simp only [Act.put, List.setIfInBounds_toArray, List.set_cons_zero, List.set_cons_succ, i64_w, i32_w]
                    rfl
                  refine pure_ (i := 9) (N := some 179) (v := ?_) (a' := ?_) #[true, true, true, true, true, true, true, true, true, true, false, false, false, false, false, false, false, false] rfl rfl (by kernel_rfl) (fun _ _ _ h => h) (Or.inl ⟨by rfl, ?_⟩) ?_ ?_
                  rotate_left
                  · intro w'
                    go_simp
                    with_reducible rfl
                  rotate_left
                  · simp only [Act.put, List.setIfInBounds_toArray, List.set_cons_zero, List.set_cons_succ, i64_w, i32_w]
                    rfl
                  refine take_ (i := 10) (N := some 180) (v := ?_) (a' := ?_) #[true, true, true, true, true, true, true, true, true, true, true, false, false, false, false, false, false, false] rfl rfl (by kernel_rfl) (fun _ _ _ h => h) (Or.inl ⟨by rfl, ?_⟩) hHeld ?_ ?_
                  rotate_left
                  · intro w' s0
                    go_simp
                    with_reducible rfl
                  rotate_left
                  · simp only [Act.put, List.setIfInBounds_toArray, List.set_cons_zero, List.set_cons_succ, i64_w, i32_w]
                    rfl
                  refine pure_ (i := 11) (N := some 181) (v := ?_) (a' := ?_) #[true, true, true, true, true, true, true, true, true, true, true, true, false, false, false, false, false, false] rfl rfl (by kernel_rfl) (fun _ _ _ h => h) (Or.inl ⟨by rfl, ?_⟩) ?_ ?_
                  rotate_left
                  · intro w'
                    go_simp
                    with_reducible rfl
                  rotate_left
                  · simp only [Act.put, List.setIfInBounds_toArray, List.set_cons_zero, List.set_cons_succ, i64_w, i32_w]
                    rfl
                  refine pure_ (i := 12) (N := some 182) (v := ?_) (a' := ?_) #[true, true, true, true, true, true, true, true, true, true, true, true, true, false, false, false, false, false] rfl rfl (by kernel_rfl) (fun _ _ _ h => h) (Or.inl ⟨by rfl, ?_⟩) ?_ ?_
                  rotate_left
                  · intro w'
                    go_simp
                    with_reducible rfl
                  rotate_left
                  · simp only [Act.put, List.setIfInBounds_toArray, List.set_cons_zero, List.set_cons_succ, i64_w, i32_w]
                    rfl
                  refine pure_ (i := 13) (N := some 183) (v := ?_) (a' := ?_) #[true, true, true, true, true, true, true, true, true, true, true, true, true, true, false, false, false, false] rfl rfl (by kernel_rfl) (fun _ _ _ h => h) (Or.inl ⟨by rfl, ?_⟩) ?_ ?_
                  rotate_left
                  · intro w'
                    go_simp
                    with_reducible rfl
                  rotate_left
                  · simp only [Act.put, List.setIfInBounds_toArray, List.set_cons_zero, List.set_cons_succ, i64_w, i32_w]
                    rfl
                  refine take_ (i := 14) (N := some 184) (v := ?_) (a' := ?_) #[true, true, true, true, true, true, true, true, true, true, true, true, true, true, true, false, false, false] rfl rfl (by kernel_rfl) (fun _ _ _ h => h) (Or.inl ⟨by rfl, ?_⟩) hHeld ?_ ?_
                  rotate_left
                  · intro w' s0
                    go_simp
                    with_reducible rfl
                  rotate_left
                  · simp only [Act.put, List.setIfInBounds_toArray, List.set_cons_zero, List.set_cons_succ, i64_w, i32_w]
                    rfl
                  refine pure_ (i := 15) (N := some 185) (v := ?_) (a' := ?_) #[true, true, true, true, true, true, true, true, true, true, true, true, true, true, true, true, false, false] rfl rfl (by kernel_rfl) (fun _ _ _ h => h) (Or.inl ⟨by rfl, ?_⟩) ?_ ?_
                  rotate_left
                  · intro w'
                    go_simp
                    with_reducible rfl
                  rotate_left
                  · simp only [Act.put, List.setIfInBounds_toArray, List.set_cons_zero, List.set_cons_succ, i64_w, i32_w]
                    rfl
                  refine pure_ (i := 16) (N := some 186) (v := ?_) (a' := ?_) #[true, true, true, true, true, true, true, true, true, true, true, true, true, true, true, true, true, false] rfl rfl (by kernel_rfl) (fun _ _ _ h => h) (Or.inl ⟨by rfl, ?_⟩) ?_ ?_
                  rotate_left
                  · intro w'
                    go_simp
                    with_reducible rfl
                  rotate_left
                  · simp only [Act.put, List.setIfInBounds_toArray, List.set_cons_zero, List.set_cons_succ, i64_w, i32_w]
                    rfl
                  refine pure_ (i := 17) (N := some 6) (v := ?_) (a' := ?_) #[true, true, true, true, true, true, true, true, true, true, true, true, true, true, true, true, true, true] rfl rfl (by kernel_rfl) (fun _ _ _ h => h) (Or.inl ⟨by rfl, ?_⟩) ?_ ?_
                  rotate_left
                  · intro w'
                    go_simp
                    with_reducible rfl
                  rotate_left
                  · simp only [Act.put, List.setIfInBounds_toArray, List.set_cons_zero, List.set_cons_succ, i64_w, i32_w]
                    rfl
                  refine done_ (by kernel_rfl) ?_
                  have HBZ := Lib.hid (HBE.out.drew)
                  go_wp2_with fail
                  go_ret
                  exact ⟨rfl, HBZ.out⟩
end Go.Proofs.Ytpflenaoplblkaa.ProCd
