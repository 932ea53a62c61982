import Derived.Test.YtpflenaoplblkaaProBa
import Derived.Deep.Cut
namespace Go.Proofs.Ytpflenaoplblkaa.ProBb
open Go.RowKit Go.Proofs.YtpflenaoplblkaaW.PrintWords Go.Proofs.YtpflenaoplblkaaW.PrintLast Go.Proofs.Ytpflenaoplblkaa.ProA Go.Proofs.Ytpflenaoplblkaa.ProB Go.Proofs.Ytpflenaoplblkaa.ProC Go.Proofs.Ytpflenaoplblkaa.ProI Go.Proofs.Ytpflenaoplblkaa.ProD Go.Proofs.Ytpflenaoplblkaa.ProE Go.Proofs.Ytpflenaoplblkaa.ProF Go.Proofs.Ytpflenaoplblkaa.ProG Go.Proofs.Ytpflenaoplblkaa.ProH Go.Proofs.Ytpflenaoplblkaa.ProJ Go.Proofs.Ytpflenaoplblkaa.ProK Go.Proofs.Ytpflenaoplblkaa.ProL Go.Proofs.Ytpflenaoplblkaa.ProM Go.Proofs.Ytpflenaoplblkaa.ProN Go.Proofs.Ytpflenaoplblkaa.ProO Go.Proofs.Ytpflenaoplblkaa.ProP Go.Proofs.Ytpflenaoplblkaa.ProQ Go.Proofs.Ytpflenaoplblkaa.ProR Go.Proofs.Ytpflenaoplblkaa.ProS Go.Proofs.Ytpflenaoplblkaa.ProT Go.Proofs.Ytpflenaoplblkaa.ProU Go.Proofs.Ytpflenaoplblkaa.ProV Go.Proofs.Ytpflenaoplblkaa.ProX Go.Proofs.Ytpflenaoplblkaa.ProZ Go.Proofs.Ytpflenaoplblkaa.ProBa
set_option linter.unusedVariables false
set_option linter.unusedSimpArgs false
def tot (l : List S35) : Nat := (l.map (fun M => 3 * M.f4.length + 68)).sum
theorem tot_take (l : List S35) (j : Nat) (h : j < l.length) : tot (l.take (j + 1)) = tot (l.take j) + (3 * l[j].f4.length + 68) := by
  unfold tot
  rw [List.take_succ_eq_append_getElem h, List.map_append, List.sum_append]
  simp
theorem tot_le (l : List S35) (j : Nat) : tot (l.take j) ≤ tot l := by
  unfold tot
  conv => rhs; rw [← List.take_append_drop j l]
  rw [List.map_append, List.sum_append]
  omega
def lastL (l : List (List Int)) : Nat := (l.getLast?.getD []).length
theorem enc_last {sel : List S35} {bss bss0 : List (List Int)} {b : List Int} (h : sel.map (fun M => encS msgTab (fldM M)) = bss.map .ok) (hb : bss = bss0.concat b) :
    ∃ sel0 M, sel = sel0 ++ [M] ∧ sel0.map (fun M => encS msgTab (fldM M)) = bss0.map .ok ∧ encS msgTab (fldM M) = .ok b := by
  subst hb
  rcases List.eq_nil_or_concat sel with rfl | ⟨sel0, M, rfl⟩
  · simp at h
  · rw [List.concat_eq_append, List.concat_eq_append, List.map_append, List.map_append] at h
    have h2 := List.append_inj' h rfl
    refine ⟨sel0, M, by simp, h2.1, ?_⟩
    simpa using h2.2
theorem enc_ge {F : Flds} {b : List Int} (h : encS msgTab F = .ok b) : 5 ≤ b.length := by
  have h1 := enc_cut h msgTab_back []
  rw [List.append_nil] at h1
  obtain ⟨_, h2, _⟩ := cutS_some h1
  omega
theorem feed_back {sel0 : List S35} {bss0 : List (List Int)} {M : S35} {b p1 : List Int} {n : Nat} (h0 : sel0.map (fun M => encS msgTab (fldM M)) = bss0.map .ok) (h : encS msgTab (fldM M) = .ok b) (hn : n ≤ b.length) (h1 : 1 ≤ n) (hp : (bss0.flatten ++ b).take ((bss0.flatten ++ b).length - n) = p1) :
    feedS msgTab ([] ++ p1) = (sel0.map fldM, 0, b.take (b.length - n)) ∧ feedS msgTab (b.take (b.length - n) ++ b.drop (b.length - n)) = ([fldM M], 0, []) ∧ (bss0.flatten ++ b).drop ((bss0.flatten ++ b).length - n) = b.drop (b.length - n) := by
  have he : (bss0.flatten ++ b).length - n = bss0.flatten.length + (b.length - n) := by rw [List.length_append]; omega
  have hp2 : p1 = bss0.flatten ++ b.take (b.length - n) := by
    rw [← hp, he, List.take_append, List.take_of_length_le (by omega), Nat.add_sub_cancel_left]
  refine ⟨?_, ?_, ?_⟩
  · rw [List.nil_append, hp2]
    exact feed_part msgTab_back (sel0.map fldM) bss0 (by rw [List.map_map]; exact h0) h _ (by omega)
  · rw [List.take_append_drop]
    exact feed_one msgTab_back h
  · rw [he, List.drop_append, List.drop_of_length_le (by omega), Nat.add_sub_cancel_left, List.nil_append]
theorem row_empty (d : Kd S35) (W : World) (base : Nat) (hb : base ≤ W.heap.size) : d.R 35 (W.alloc (.cells #[] 35)) base (fun _ => True) (.slice (some ⟨W.heap.size, 0, none⟩) 0 0) [] :=
  ⟨fun _ _ => trivial, OwnRow.lit W base (ps := []) (Reps.none _ _) hb (by simp)⟩
theorem c_nil {α : Type} (d : Kd α) (w : World) (A : Option Addr) : d.C w A 0 ([] : List α) := ⟨rfl, by omega, fun h => absurd h (Nat.lt_irrefl 0)⟩
theorem feed_nil {tab : List (List PS)} : feedS tab ([] ++ []) = ([], 0, []) := feedS_wait rfl
structure BackSt (w w1 wr : World) (xs : List S35) (j : Nat) (av wv : Value) (sel : List S35) (bss : List (List Int)) : Prop where
  below : Below w1.heap.size w1 wr
  all : Own wr w1.heap.size (fun _ => True) av bss.flatten
  want : Kd.R (kAt k35 w) 35 wr w1.heap.size (fun _ => True) wv sel
  enc : sel.map (fun M => encS msgTab (fldM M)) = bss.map .ok
  u8 : u8s bss.flatten
  len : bss.flatten.length ≤ tot (xs.take j)
  cnt : sel.length ≤ j
set_option maxHeartbeats 8000000 in
set_option maxRecDepth 100000 in
theorem back_walk (A : Option Addr) (c : Nat) (less : Int) (xs : List S35) (w : World) (hx : Kd.C k35 w A xs.length xs) (hc : xs.length ≤ c) (hu : ∀ M ∈ xs, u8s M.f4) (hm : ∀ M ∈ xs, M.f4.length ≤ 1048576) (hn : xs.length ≤ 1048576) (htot : tot xs ≤ 100000000)
    (hl : -9223372036854775808 ≤ less ∧ less ≤ 9223372036854775807) :
    Calls Try.prog 4 #[.slice A xs.length c, .int .i64 less] w fun e w' => e = .returned (.bool true) ∧ Below w.heap.size w w' := by
  have HX := Lib.hid hx
  have HU := Lib.hid hu
  have HM := Lib.hid hm
  clear hx hu hm
  go_enter Try.func4, Try.ntmps4
  go_wp2_with fail
  refine (fed_ok w).mono ?_
  rintro e w1 ⟨rfl, hb1⟩
  have HB1 := Lib.hid hb1
  have hs1 := hb1.size
  clear hb1
  go_wp2_with fail
  go_loopw [6, 7, 8, 9] (fun av wv la i wr => ∃ (j : Nat) (sel : List S35) (bss : List (List Int)), j ≤ xs.length ∧ i = .int .i64 (j : Int) ∧ la = .int .i64 (lastL bss : Int) ∧ Hid (BackSt w w1 wr xs j av wv sel bss)) (fun _ _ _ i _ => xs.length - (intOf i).toNat)
  case atStart => exact ⟨0, [], [], by omega, rfl, rfl, Lib.hid ⟨Below.refl _ _, Kd.R_nil _ _ _ _ _, Kd.R_nil _ _ _ _ _, rfl, u8n, by simp, by simp⟩⟩
  case round =>
    obtain ⟨j, sel, bss, hj, rfl, rfl, HS⟩ := hrel
    by_cases hlt : j < xs.length
    · have dl : decide ((j : Int) < (xs.length : Int)) = true := by simp; omega
      have hbw : Below w.heap.size w wr := HB1.out.trans (HS.out.below.mono hs1)
      obtain ⟨ad, Ad, cd, rfl, k0, k1, k2, k3, k4, hcd, hrd⟩ := at_K (C_kAt HX.out hbw) (j : Int) (by omega) (by omega)
      have hrdM : rd_T35 xs (j : Int) = xs[j] := by
        unfold rd_T35
        rw [Int.toNat_natCast, List.getD_eq_getElem?_getD, List.getElem?_eq_getElem hlt]
        rfl
      rw [hrdM] at k0 k1 k2 k3 k4 hcd hrd
      rw [Int.toNat_natCast] at k0 k1 k2 k3 k4
      have HUM := Lib.hid (HU.out xs[j] (List.getElem_mem hlt))
      have HMM := Lib.hid (HM.out xs[j] (List.getElem_mem hlt))
      have htk := tot_take xs j hlt
      have htl := tot_le xs (j + 1)
      have HTK := Lib.hid htk
      generalize xs[j] = M at k0 k1 k2 k3 k4 hcd hrd HUM HMM HTK htk
      have hlenall := HS.out.len
      have hcnt := HS.out.cnt
      rw [htk] at htl
      generalize tot (List.take j xs) = tj at htl hlenall
      have HRD := Lib.hid hrd
      have HCD := Lib.hid hcd
      have hbl : ∀ {W : World} {q : Addr} {u : Value}, Below wr.heap.size wr W → wr.cell? q = some u → W.cell? q = some u := fun hb h => (hb.cell (World.block_lt_of_cell? wr _ h)).trans h
      have HK := Lib.hid (And.intro k0 (And.intro k1 (And.intro k2 (And.intro k3 k4))))
      have HBL : Hid (∀ (W : World) (q : Addr) (u : Value), Below wr.heap.size wr W → wr.cell? q = some u → W.cell? q = some u) := Lib.hid (fun _ _ _ => hbl)
      have HBW := Lib.hid hbw
      clear hrd hrdM htk hbl hbw hcd
      go_wp2_with fail
      have henc := Encode_ok M Ad _ cd wr (BytesAt.below (B := 0) HRD.out HBW.out) (Nat.le_trans HMM.out (by omega))
      cases he : encS msgTab (fldM M) with
      | error q =>
        rw [he] at henc
        refine henc.mono ?_
        rintro e w5 ⟨v5, code5, rfl, hb5, rfl, rfl⟩
        have hq := enc_err_code he
        have HB5 := Lib.hid hb5
        clear henc hb5 he k0 k1 k2 k3 k4
        rcases hq with rfl | rfl
        all_goals
          go_wp2_with fail
          refine ⟨⟨j + 1, sel, bss, by omega, by go_num, rfl, Lib.hid ?_⟩, by simp [intOf]; omega⟩
          have hst := HS.out
          exact ⟨hst.below.trans (HB5.out.mono hst.below.size), Kd.R_below hst.all HB5.out, Kd.R_below hst.want HB5.out, hst.enc, hst.u8, by rw [HTK.out]; have := hst.len; omega, by have := hst.cnt; omega⟩
      | ok bs =>
        rw [he] at henc
        refine henc.mono ?_
        rintro e w5 ⟨v5, code5, rfl, hb5, rfl, ho5⟩
        obtain ⟨A6, c6, hv6, hc6, hr6⟩ := Kd.R_reads ho5
        subst hv6
        obtain ⟨hub, hlb⟩ := enc_facts he msgTab_ok msg3 (by decide) HUM.out
        have HE := Lib.hid he
        have HUB := Lib.hid hub
        have HB5 := Lib.hid hb5
        have HR6 := Lib.hid hr6
        have hlb' : bs.length ≤ 3 * M.f4.length + 68 := hlb
        have HO5 := Lib.hid ho5
        clear henc hb5 he ho5 hr6 hc6 hub hlb
        have q0 := HBL.out _ _ _ HB5.out k0
        have q1 := HBL.out _ _ _ HB5.out k1
        have q2 := HBL.out _ _ _ HB5.out k2
        have q3 := HBL.out _ _ _ HB5.out k3
        have q4 := HBL.out _ _ _ HB5.out k4
        clear k0 k1 k2 k3 k4
        have HW5 := Lib.hid (HS.out.below.trans (HB5.out.mono HS.out.below.size))
        have hs5 := HW5.out.size
        have HW6 := Lib.hid (Kd.R_below HS.out.want HB5.out)
        have hrd7 : ∀ w7, w5.grownBy w7 u7.ownBlock → BytesAt w7 A6 bs.length bs := fun w7 hg => by
          obtain ⟨inner, ho⟩ := Kd.R_own HW6.out
          have h7 := row_grown HO5.out ho hg (fun q hq => by
            rcases List.mem_cons.1 hq with rfl | hq
            · decide
            · cases hq)
          obtain ⟨A2, c2, hv2, _, hr2⟩ := Kd.R_reads h7
          injection hv2 with e1 e2 e3
          subst e1
          exact hr2
        have hall7 : ∀ w7, w5.grownBy w7 u7.ownBlock → Own w7 w1.heap.size (fun _ => True) u6 bss.flatten := fun w7 hg => by
          obtain ⟨inner, ho⟩ := Kd.R_own HW6.out
          exact row_grown (Kd.R_below HS.out.all HB5.out) ho hg (fun q hq => by
            rcases List.mem_cons.1 hq with rfl | hq
            · decide
            · cases hq)
        have HRD7 := Lib.hid hrd7
        have HALL7 := Lib.hid hall7
        clear hrd7 hall7
        have hbl8 : bss.flatten.length + bs.length ≤ 140737488355328 := by omega
        have HSL := Lib.hid (show (sel.length + 1) * 64 ≤ 140737488355328 by omega)
        go_wp2_with (first
          | ((with_reducible refine gate_builtin (b := .append) (xs := #[.tmp 49, .tmp 54]) rfl ?_); at_builtin; refine Kd.R_append (kAt k35 w) (w0 := w1) w1.heap.size rfl (.tmp 49) (.tmp 54) 27 35 (.agg #[.int .i64 0, .int .i64 0, .string ⟨#[]⟩, .int .i64 0, .slice none 0 0]) 64 rfl Try.underlying27 info35 rfl (Nat.succ_pos 4) (Nat.succ_pos 63) u7 sel M [.int .i64 M.f0, .int .i64 M.f1, .string M.f2, .int .i64 M.f3, .slice Ad M.f4.length cd] (fun _ => True) (fun _ => False) rfl rfl ?hp ?hokp (fun _ _ => trivial) ?hrow ?hbel ?hbase ?hl ?_; (case hp => exact k35_mk w M HCD.out HRD.out); (case hokp => exact fun k hk => hk.elim); (case hrow => exact Kd.R_below HS.out.want HB5.out); (case hbel => exact HW5.out); (case hbase => exact hs5); (case hl => exact HSL.out); intro v7 w7 hr7 hb7 hg7 hat7; have HR7 := Lib.hid hr7; have HW7 := Lib.hid hb7; have HG7 := Lib.hid hg7; clear hr7 hb7 hg7 hat7)
          | ((with_reducible refine gate_builtin (b := .append) (xs := #[.tmp 56, .tmp 57]) rfl ?_); at_builtin; refine app_bytes (w0 := w1) w1.heap.size rfl (.tmp 56) (.tmp 57) rfl u6 bss.flatten bs A6 bs.length c6 (fun _ => True) rfl rfl ?ho ?hr (fun _ _ => trivial) ?hbel ?hbase hbl8 ?_; (case ho => exact HALL7.out _ HG7.out); (case hr => exact HRD7.out _ HG7.out); (case hbel => exact HW7.out); (case hbase => exact HW7.out.size); intro v8 w8 hr8 hb8 hg8 hat8; have HR8 := Lib.hid hr8; have HW8 := Lib.hid hb8; have HG8 := Lib.hid hg8; clear hr8 hb8 hg8 hat8))
        refine ⟨⟨j + 1, sel ++ [M], bss ++ [bs], by omega, by go_num, by simp [lastL], Lib.hid ?_⟩, by simp [intOf]; omega⟩
        have hst := HS.out
        obtain ⟨inner, ho⟩ := Kd.R_own (HALL7.out _ HG7.out)
        refine ⟨HW8.out, by rw [List.flatten_append, List.flatten_cons, List.flatten_nil, List.append_nil]; exact HR8.out, row_grown HR7.out ho HG8.out (fun q hq => ?_), ?_, ?_, ?_, ?_⟩
        · rcases List.mem_cons.1 hq with rfl | hq
          · decide
          · cases hq
        · rw [List.map_append, List.map_append, hst.enc]
          simp [HE.out]
        · rw [List.flatten_append, List.flatten_cons, List.flatten_nil, List.append_nil]
          exact u8_app hst.u8 HUB.out
        · rw [HTK.out, List.flatten_append, List.flatten_cons, List.flatten_nil, List.append_nil, List.length_append]
          have := hst.len
          omega
        · rw [List.length_append, List.length_singleton]
          have := hst.cnt
          omega
    · have hjx : j = xs.length := by omega
      subst hjx
      have dl : decide ((xs.length : Int) < (xs.length : Int)) = false := by simp
      have hlenall := HS.out.len
      rw [List.take_length] at hlenall
      have hcnt := HS.out.cnt
      have hs2 := HS.out.below.size
      obtain ⟨A6, c6, hv6, hc6, hr6⟩ := Kd.R_reads HS.out.all
      obtain ⟨A7, c7, hv7, hc7, hr7⟩ := Kd.R_reads HS.out.want
      subst hv6 hv7
      have HR6 := Lib.hid hr6
      have HR7 := Lib.hid hr7
      have HU8 := Lib.hid HS.out.u8
      have HENC := Lib.hid HS.out.enc
      have HBR := Lib.hid (HB1.out.trans (HS.out.below.mono hs1))
      clear hr6 hr7 HS hc7 HB1
      go_wp2_with fail
      refine (new_ok wr).mono ?_
      rintro e w2 ⟨rfl, hw2⟩
      have HD2 := Lib.hid (show Blk w2 wr.heap.size #[.slice none 0 0, .bool false] 67 by rw [← hw2]; exact blkNew rfl)
      have HB2 := Lib.hid (show Below wr.heap.size wr w2 by rw [← hw2]; exact ba _)
      clear hw2
      have hs3 := HB2.out.size
      have hg2 : wr.heap.size < w2.heap.size := Blk.lt HD2.out
      rcases List.eq_nil_or_concat bss with hbs | ⟨bss0, b, hbs⟩
      · have hsel : sel = [] := by
          have h := HENC.out
          rw [hbs] at h
          simpa using h
        subst hbs
        subst hsel
        have hl0 : ((lastL [] : Nat) : Int) = 0 := rfl
        have hf0 : ([] : List (List Int)).flatten.length = 0 := rfl
        rw [hl0, hf0]
        obtain ⟨i5, hi5, hz5⟩ := info5'
        obtain ⟨A8, hrun, hread, hcap⟩ := print_cut_int (P := Try.prog) (k := .u8) 22 5 Try.underlying22 hi5 hz5 A6 c6 ([] : List Int) 0 (by omega) (by simp) (by simp)
        clear hread hcap hc6 hf0 hl0 hlenall
        go_wp2_with ((with_reducible refine gate_builtin (b := .append) (xs := #[.tmp 77, .tmp 83]) rfl ?_); at_builtin; refine app_bytes (w0 := w2) w2.heap.size rfl (.tmp 77) (.tmp 83) rfl _ [] [] _ 0 _ (fun _ => True) rfl rfl (own_empty w2 w2.heap.size _ (Nat.le_refl _) trivial) (c_nil _ _ _) (fun _ _ => trivial) (ba _) ?hbase ?hl ?_; (case hbase => simp); (case hl => simp); intro v3 w3 ho3 hb3 hg3 hat3; have HO3 := Lib.hid ho3; have HB3 := Lib.hid hb3; clear ho3 hb3 hg3 hat3)
        obtain ⟨A3, c3, hv3, hc3, hr3⟩ := Kd.R_reads HO3.out
        subst hv3
        have hs4 := HB3.out.size
        refine (feed_to w3 wr.heap.size 0 c3 (.slice none 0 0) [] [] A3 feed_nil (Blk.below HD2.out HB3.out) (Kd.R_nil _ _ _ _ _) (by omega) hr3 hc3 u8n u8n (by simp)).mono ?_
        clear hr3 hc3
        rintro e w4 ⟨A4, c4, B4, c4', rfl, hr4, hd4, ho4, ht4⟩
        have ht4' : Tu [wr.heap.size] w3 w4 := ht4.mono (fun i hi => .inl (by simpa [Value.ownBlock] using hi))
        have HD4 : Hid (Blk w4 wr.heap.size #[.slice B4 0 c4', .bool false] 67) := Lib.hid hd4
        have HO4 := Lib.hid ho4
        have HT4 := Lib.hid ht4'
        have hs5 := ht4'.size
        clear hr4 hd4 ho4 ht4 ht4'
        go_wp2_with fail
        refine (waiting_ok w4 wr.heap.size _ _ _ _ HD4.out).mono ?_
        rintro e w' ⟨rfl, rfl⟩
        have HBR4 := Lib.hid ((HB2.out.trans (HB3.out.mono hs3)).trans (HT4.out.below (B := wr.heap.size) (by omega) (by simp)))
        have hsr4 := HBR4.out.size
        go_wp2_with ((with_reducible refine gate_builtin (b := .append) (xs := #[.tmp 92, .tmp 98]) rfl ?_); at_builtin; refine app_bytes (w0 := w4) w4.heap.size rfl (.tmp 92) (.tmp 98) rfl _ [] [] _ 0 _ (fun _ => True) rfl rfl (own_empty w4 w4.heap.size _ (Nat.le_refl _) trivial) (c_nil _ _ _) (fun _ _ => trivial) (ba _) ?hbase ?hl ?_; (case hbase => simp); (case hl => simp); intro v5 w5 ho5 hb5 hg5 hat5; have HO5 := Lib.hid ho5; have HB5 := Lib.hid hb5; clear ho5 hb5 hg5 hat5)
        obtain ⟨A5, c5, hv5, hc5, hr5⟩ := Kd.R_reads HO5.out
        subst hv5
        have hs6 := HB5.out.size
        have HO4' := Lib.hid (Kd.R_below HO4.out HB5.out)
        have HD5 := Lib.hid (Blk.below HD4.out HB5.out)
        have hge4 := Kd.R_base HO4.out
        refine (feed_to w5 wr.heap.size w3.heap.size c5 (.slice B4 0 c4') [] [] A5 feed_nil HD5.out HO4'.out (by omega) hr5 hc5 u8n u8n (by simp)).mono ?_
        clear hr5 hc5
        rintro e w6 ⟨A9, c9, B6, c6', rfl, hr6, hd6, ho6, ht6⟩
        have HB6 := Lib.hid (HBR4.out.trans (Below.trans (HB5.out.mono hsr4) (ht6.below (B := wr.heap.size) (by omega) (fun i hi => by
          simp only [List.mem_cons, Option.mem_toList] at hi
          rcases hi with hi | hi
          · omega
          · have := hge4 i hi; omega))))
        have HD6 : Hid (Blk w6 wr.heap.size #[.slice B6 0 c6', .bool false] 67) := Lib.hid hd6
        have hsw6 := HB6.out.size
        clear hr6 hd6 ho6 ht6 hge4
        go_wp2_with (first
          | (go_at_call 13; with_reducible refine (waiting_ok w6 wr.heap.size _ _ _ _ HD6.out).mono ?_; rintro e w' ⟨rfl, rfl⟩)
          | ((with_reducible refine gate_builtin (b := .append) (xs := #[.tmp 125, .tmp 126]) rfl ?_); at_builtin; refine Kd.R_append_rows (kAt k35 w6) (Rr := k35.K w6) (w0 := w6) w6.heap.size rfl (.tmp 125) (.tmp 126) 27 35 (.agg #[.int .i64 0, .int .i64 0, .string ⟨#[]⟩, .int .i64 0, .slice none 0 0]) 64 rfl Try.underlying27 info35 rfl (Nat.succ_pos 4) (Nat.succ_pos 63) _ [] [] _ 0 _ (fun _ => True) (fun _ => False) rfl rfl ?ho (c_nil (kAt k35 w6) _ _) (fun _ _ h => h) (fun _ h => h.elim) (fun _ _ => trivial) ?hbel ?hbase ?hl ?_; (case ho => exact row_empty _ w6 w6.heap.size (Nat.le_refl _)); (case hbel => exact ba _); (case hbase => simp); (case hl => simp); intro v7 w7 hr7 hb7 hg7 hat7; have HR8 := Lib.hid hr7; have HB7 := Lib.hid hb7; clear hr7 hb7 hg7 hat7)
          | ((with_reducible refine gate_builtin (b := .append) (xs := #[.tmp 127, .tmp 128]) rfl ?_); at_builtin; refine Kd.R_append_rows (kAt k35 w6) (Rr := k35.K w6) (w0 := w6) w6.heap.size rfl (.tmp 127) (.tmp 128) 27 35 (.agg #[.int .i64 0, .int .i64 0, .string ⟨#[]⟩, .int .i64 0, .slice none 0 0]) 64 rfl Try.underlying27 info35 rfl (Nat.succ_pos 4) (Nat.succ_pos 63) v7 [] [] _ 0 _ (fun _ => True) (fun _ => False) rfl rfl ?ho (c_nil (kAt k35 w6) _ _) (fun _ _ h => h) (fun _ h => h.elim) (fun _ _ => trivial) ?hbel ?hbase ?hl ?_; (case ho => exact HR8.out); (case hbel => exact HB7.out); (case hbase => exact HB7.out.size); (case hl => simp); intro v8 w8 hr8 hb8 hg8 hat8; obtain ⟨A12, c12, hv12, hcap12, hC9⟩ := Kd.R_reads hr8; have HB8 := Lib.hid hb8; clear hr8 hb8 hg8 hat8 hcap12 hC9; subst hv12))
        have HBW6 := Lib.hid (HBR.out.trans (HB6.out.mono HBR.out.size))
        have HBW8 := Lib.hid (HBW6.out.trans (HB8.out.mono HBW6.out.size))
        go_loopw [19, 20] (fun i al wq => i = .int .i64 0 ∧ Hid (Below w8.heap.size w8 wq)) (fun _ _ _ => 0)
        case atStart => exact ⟨rfl, Lib.hid (Below.refl _ _)⟩
        case round =>
          rename_i wq
          obtain ⟨rfl, HBq⟩ := hrel
          go_wp2_with fail
          go_ret
          exact ⟨rfl, HBW8.out.trans (HBq.out.mono HBW8.out.size)⟩
      · obtain ⟨sel0, M, hsel, henc0, hencM⟩ := enc_last HENC.out hbs
        have hb5 := enc_ge hencM
        have hlast : lastL bss = b.length := by subst hbs; simp [lastL]
        have hall : bss.flatten = bss0.flatten ++ b := by subst hbs; simp
        rw [hlast]
        have hLb : bss.flatten.length = bss0.flatten.length + b.length := by rw [hall, List.length_append]
        generalize hal : bss.flatten = all at *
        have HAL := Lib.hid hall
        have HENM := Lib.hid hencM
        have HEN0 := Lib.hid henc0
        have HSEL := Lib.hid hsel
        have HSL1 := Lib.hid (show sel.length = sel0.length + 1 by rw [hsel]; simp)
        have hba : b.length ≤ all.length := by omega
        have HLB := Lib.hid hLb
        clear hLb hbs hlast hall hal henc0 hencM hsel HENC
        have dz : decide (((b.length : Nat) : Int) > 0) = true := by simp; omega
        go_wp2_with fail
        refine (pick_ok less _ w2 hl (by omega) (by omega)).mono ?_
        rintro e w' ⟨r, rfl, hr0, hr1, rfl⟩
        obtain ⟨m, rfl⟩ := Int.eq_ofNat_of_zero_le hr0
        obtain ⟨i5, hi5, hz5⟩ := info5'
        obtain ⟨hrun, hread, hcap⟩ := print_take_int (P := Try.prog) (k := .u8) 22 5 Try.underlying22 hi5 hz5 A6 c6 all ((all.length : Int) - (1 + (m : Int))) (by omega) (by omega) hc6
        rw [show ((all.length : Int) - (1 + (m : Int))).toNat = all.length - (1 + m) by omega] at hrun hread hcap
        generalize hp1 : all.take (all.length - (1 + m)) = p1 at hrun hread hcap
        have hp1l : p1.length = all.length - (1 + m) := by rw [← hp1, List.length_take]; omega
        have HP1 := Lib.hid hp1
        have HX1 : Hid (BytesAt (w2.alloc (.cells #[] 5)) A6 (all.length - (1 + m)) p1) := Lib.hid (hp1l ▸ BytesAt.of (hread (w2.alloc (.cells #[] 5)) (BytesAt.nums (BytesAt.below (B := 0) HR6.out (HB2.out.alloc hs3 _)))))
        clear hread hcap hp1 hrun
        have HP1L := Lib.hid hp1l
        have hp1m : p1.length ≤ 100000000 := by omega
        clear hp1l
        go_wp2_with (at_builtin; refine app_bytes (w0 := w2) w2.heap.size rfl (.tmp 77) (.tmp 83) rfl _ [] p1 A6 (all.length - (1 + m)) c6 (fun _ => True) rfl rfl (own_empty w2 w2.heap.size _ (Nat.le_refl _) trivial) HX1.out (fun _ _ => trivial) (ba _) (by simp) (by simp; omega) ?_; intro v3 w3 ho3 hb3 hg3 hat3; have HO3 := Lib.hid ho3; have HB3 := Lib.hid hb3; clear ho3 hb3 hg3 hat3)
        obtain ⟨A3, c3, hv3, hc3, hr3⟩ := Kd.R_reads HO3.out
        subst hv3
        have hs4 := HB3.out.size
        have HF := Lib.hid (feed_back HEN0.out HENM.out (show 1 + m ≤ b.length by omega) (by omega) (HAL.out ▸ HP1.out) )
        have HU1 := Lib.hid (show u8s p1 from fun x hx => HU8.out x (by rw [← HP1.out] at hx; exact List.mem_of_mem_take hx))
        refine (feed_to w3 wr.heap.size 0 c3 (.slice none 0 0) [] p1 A3 HF.out.1 (Blk.below HD2.out HB3.out) (Kd.R_nil _ _ _ _ _) (by omega) hr3 hc3 u8n HU1.out (by simp; omega)).mono ?_
        clear hr3 hc3
        rintro e w4 ⟨A4, c4, B4, c4', rfl, hr4, hd4, ho4, ht4⟩
        have ht4' : Tu [wr.heap.size] w3 w4 := ht4.mono (fun i hi => .inl (by simpa [Value.ownBlock] using hi))
        have HD4 : Hid (Blk w4 wr.heap.size #[.slice B4 (b.take (b.length - (1 + m))).length c4', .bool false] 67) := Lib.hid hd4
        have HR4 := Lib.hid hr4
        have HO4 := Lib.hid ho4
        have HT4 := Lib.hid ht4'
        have hs5 := ht4'.size
        clear hr4 hd4 ho4 ht4 ht4'
        have hwl : (b.take (b.length - (1 + m))).length = b.length - (1 + m) := by rw [List.length_take]; omega
        rw [hwl] at HD4
        go_wp2_with fail
        refine (waiting_ok w4 wr.heap.size _ _ _ _ HD4.out).mono ?_
        rintro e w' ⟨rfl, rfl⟩
        have HBR4 := Lib.hid ((HB2.out.trans (HB3.out.mono hs3)).trans (HT4.out.below (B := wr.heap.size) (by omega) (by simp)))
        have hsr4 := HBR4.out.size
        obtain ⟨A8, hrun, hread, hcap⟩ := print_cut_int (P := Try.prog) (k := .u8) 22 5 Try.underlying22 hi5 hz5 A6 c6 all ((all.length : Int) - (1 + (m : Int))) (by omega) (by omega) hc6
        rw [show ((all.length : Int) - (1 + (m : Int))).toNat = all.length - (1 + m) by omega] at hrun hread hcap
        have hp2 : all.drop (all.length - (1 + m)) = b.drop (b.length - (1 + m)) := by rw [HAL.out]; exact HF.out.2.2
        rw [hp2] at hrun hread hcap
        generalize hpd : b.drop (b.length - (1 + m)) = p2 at hrun hread hcap
        have hp2l : p2.length = 1 + m := by rw [← hpd, List.length_drop]; omega
        have HPD := Lib.hid hpd
        have HU2 := Lib.hid (show u8s p2 from fun x hx => HU8.out x (by rw [← hpd, ← hp2] at hx; exact List.mem_of_mem_drop hx))
        have HX2 : Hid (BytesAt (w4.alloc (.cells #[] 5)) A8 p2.length p2) := Lib.hid (BytesAt.of (hread (w4.alloc (.cells #[] 5)) (BytesAt.nums (BytesAt.below (B := 0) HR6.out (HBR4.out.alloc hsr4 _)))))
        have HP2L := Lib.hid hp2l
        have hp2m : p2.length ≤ 100000000 := by omega
        clear hread hcap hp2 hpd hp2l
        go_wp2_with (at_builtin; refine app_bytes (w0 := w4) w4.heap.size rfl (.tmp 92) (.tmp 98) rfl _ [] p2 A8 p2.length (c6 - (all.length - (1 + m))) (fun _ => True) rfl rfl (own_empty w4 w4.heap.size _ (Nat.le_refl _) trivial) HX2.out (fun _ _ => trivial) (ba _) (by simp) (by simp; omega) ?_; intro v5 w5 ho5 hb5 hg5 hat5; have HO5 := Lib.hid ho5; have HB5 := Lib.hid hb5; clear ho5 hb5 hg5 hat5)
        obtain ⟨A5, c5, hv5, hc5, hr5⟩ := Kd.R_reads HO5.out
        subst hv5
        have hs6 := HB5.out.size
        have HUW := Lib.hid (show u8s (b.take (b.length - (1 + m))) from fun x hx => HU8.out x (by rw [HAL.out]; exact List.mem_append_right _ (List.mem_of_mem_take hx)))
        have HF2 : Hid (feedS msgTab (b.take (b.length - (1 + m)) ++ p2) = ([fldM M], 0, [])) := Lib.hid (HPD.out ▸ HF.out.2.1)
        have HO4' := Lib.hid (Kd.R_below HO4.out HB5.out)
        have HD5 := Lib.hid (Blk.below HD4.out HB5.out)
        generalize hws : b.take (b.length - (1 + m)) = ws at HO4 HO4' HR4 HF2 HUW hwl
        rw [← hwl] at HD5
        refine (feed_to w5 wr.heap.size w3.heap.size c5 (.slice B4 ws.length c4') ws p2 A5 HF2.out HD5.out HO4'.out (by omega) hr5 hc5 HUW.out HU2.out (by omega)).mono ?_
        clear hr5 hc5 hws
        rintro e w6 ⟨A9, c9, B6, c6', rfl, hr6, hd6, ho6, ht6⟩
        have hR6 : Kd.R k35 35 w6 w5.heap.size (fun _ => True) (.slice A9 1 c9) [M] := Kd.R_mono hr6 (fun _ _ => trivial)
        have hge4 := Kd.R_base HO4.out
        have hR4 : Kd.R k35 35 w6 w3.heap.size (fun _ => True) (.slice A4 sel0.length c4) sel0 := by
          have hh : Kd.R k35 35 w6 w3.heap.size _ (.slice A4 (sel0.map fldM).length c4) ((sel0.map fldM).map msgOf) := Kd.R_move (Kd.R_bound HR4.out) (fun k hk => (ht6.block k (by have := hk.2.2.1; omega) (fun hm => by
            simp only [List.mem_cons, Option.mem_toList] at hm
            rcases hm with hm | hm
            · have := hk.2.1; omega
            · exact hk.1 hm.symm)).trans (HB5.out.block k hk.2.2.1))
          rw [List.map_map, List.length_map] at hh
          have he : sel0.map (msgOf ∘ fldM) = sel0 := by
            conv => rhs; rw [← List.map_id sel0]
            exact List.map_congr_left fun x _ => rfl
          rw [he] at hh
          exact Kd.R_mono hh (fun _ _ => trivial)
        have HB6 := Lib.hid (HBR4.out.trans (Below.trans (HB5.out.mono hsr4) (ht6.below (B := wr.heap.size) (by omega) (fun i hi => by
          simp only [List.mem_cons, Option.mem_toList] at hi
          rcases hi with hi | hi
          · omega
          · have := hge4 i hi; omega))))
        obtain ⟨A10, c10, hv10, _, hC4⟩ := Kd.R_reads hR4
        injection hv10 with e1 e2 e3
        clear e2 e3
        subst e1
        obtain ⟨A11, c11, hv11, _, hC6⟩ := Kd.R_reads hR6
        injection hv11 with e1 e2 e3
        clear e2 e3
        subst e1
        have HC4 := Lib.hid hC4
        have HC6 := Lib.hid hC6
        have HD6 : Hid (Blk w6 wr.heap.size #[.slice B6 0 c6', .bool false] 67) := Lib.hid hd6
        have hsw6 := HB6.out.size
        clear hr6 hd6 ho6 ht6 hR6 hR4 hge4 hC4 hC6
        have hs0 : sel0.length ≤ 1048576 := by have := HSL1.out; omega
        have hne : ((b.length - (1 + m) : Nat) : Int) = (b.length : Int) - (1 + (m : Int)) := by omega
        go_wp2_with (first
          | (go_at_call 13; with_reducible refine (waiting_ok w6 wr.heap.size _ _ _ _ HD6.out).mono ?_; rintro e w' ⟨rfl, rfl⟩)
          | ((with_reducible refine gate_builtin (b := .append) (xs := #[.tmp 125, .tmp 126]) rfl ?_); at_builtin; refine Kd.R_append_rows (kAt k35 w6) (Rr := k35.K w6) (w0 := w6) w6.heap.size rfl (.tmp 125) (.tmp 126) 27 35 (.agg #[.int .i64 0, .int .i64 0, .string ⟨#[]⟩, .int .i64 0, .slice none 0 0]) 64 rfl Try.underlying27 info35 rfl (Nat.succ_pos 4) (Nat.succ_pos 63) _ [] sel0 A4 sel0.length c4 (fun _ => True) (fun _ => False) rfl rfl ?ho ?hr (fun _ _ h => h) (fun _ h => h.elim) (fun _ _ => trivial) (ba _) ?hbase ?hl ?_; (case ho => exact row_empty _ w6 w6.heap.size (Nat.le_refl _)); (case hr => exact Kd.C_below (C_kAt HC4.out (Below.refl _ _)) (ba _)); (case hbase => simp); (case hl => simp; omega); intro v7 w7 hr7 hb7 hg7 hat7; have HR8 := Lib.hid hr7; have HB7 := Lib.hid hb7; clear hr7 hb7 hg7 hat7)
          | ((with_reducible refine gate_builtin (b := .append) (xs := #[.tmp 127, .tmp 128]) rfl ?_); at_builtin; refine Kd.R_append_rows (kAt k35 w6) (Rr := k35.K w6) (w0 := w6) w6.heap.size rfl (.tmp 127) (.tmp 128) 27 35 (.agg #[.int .i64 0, .int .i64 0, .string ⟨#[]⟩, .int .i64 0, .slice none 0 0]) 64 rfl Try.underlying27 info35 rfl (Nat.succ_pos 4) (Nat.succ_pos 63) v7 sel0 [M] A9 1 c9 (fun _ => True) (fun _ => False) rfl rfl ?ho ?hr (fun _ _ h => h) (fun _ h => h.elim) (fun _ _ => trivial) ?hbel ?hbase ?hl ?_; (case ho => exact HR8.out); (case hr => exact Kd.C_below (C_kAt HC6.out (Below.refl _ _)) HB7.out); (case hbel => exact HB7.out); (case hbase => exact HB7.out.size); (case hl => omega); intro v8 w8 hr8 hb8 hg8 hat8; rw [← HSEL.out] at hr8; obtain ⟨A12, c12, hv12, hcap12, hC9⟩ := Kd.R_reads hr8; have HB8 := Lib.hid hb8; have HC1 := Lib.hid hC9; clear hr8 hb8 hg8 hat8 hcap12 hC9; subst hv12))
        have HBW6 := Lib.hid (HBR.out.trans (HB6.out.mono HBR.out.size))
        have HBW8 := Lib.hid (HBW6.out.trans (HB8.out.mono HBW6.out.size))
        have HC2 := Lib.hid (Kd.C_below HR7.out (HB6.out.trans (HB8.out.mono hsw6)))
        go_loopw [19, 20] (fun i al wq => ∃ t : Nat, t ≤ sel.length ∧ i = .int .i64 (t : Int) ∧ Hid (Below w8.heap.size w8 wq)) (fun i _ _ => sel.length - (intOf i).toNat)
        case atStart => exact ⟨0, by omega, rfl, Lib.hid (Below.refl _ _)⟩
        case round =>
          rename_i wq
          obtain ⟨t, ht, rfl, HBq⟩ := hrel
          by_cases hlt : t < sel.length
          · have dt : decide ((t : Int) < (sel.length : Int)) = true := by simp; omega
            obtain ⟨ad, Ad, cd, rfl, k0, k1, k2, k3, k4, _, hrd⟩ := at_K (Kd.C_below HC1.out HBq.out) (t : Int) (by omega) (by omega)
            obtain ⟨bd, Bd, dd, rfl, j0, j1, j2, j3, j4, _, hrd2⟩ := at_K (Kd.C_below HC2.out HBq.out) (t : Int) (by omega) (by omega)
            rw [Int.toNat_natCast] at k0 k1 k2 k3 k4 j0 j1 j2 j3 j4
            generalize hM : rd_T35 sel (t : Int) = M at k0 k1 k2 k3 k4 j0 j1 j2 j3 j4 hrd hrd2
            have HRA := Lib.hid (BytesAt.below (B := 0) hrd (HB8.out.trans (HBq.out.mono HB8.out.size) |>.trans (Below.drew (Below.refl _ _))))
            have HRB := Lib.hid (BytesAt.below (B := 0) hrd2 (HBW8.out.trans (HBq.out.mono HBW8.out.size) |>.trans (Below.drew (Below.refl _ _))))
            have HK := Lib.hid (And.intro k0 (And.intro k1 (And.intro k2 (And.intro k3 (And.intro k4 (And.intro j0 (And.intro j1 (And.intro j2 (And.intro j3 j4)))))))))
            clear hrd hrd2 hM k0 k1 k2 k3 k4 j0 j1 j2 j3 j4
            go_wp2_with fail
            refine start_ (n := 10) (S := fun w' => w'.cell? (ad.add (t * 5)) = some (.int .i64 M.f0) ∧ w'.cell? ⟨(ad.add (t * 5)).block, (ad.add (t * 5)).off + 1, none⟩ = some (.int .i64 M.f1) ∧ w'.cell? ⟨(ad.add (t * 5)).block, (ad.add (t * 5)).off + 2, none⟩ = some (.string M.f2) ∧ w'.cell? ⟨(ad.add (t * 5)).block, (ad.add (t * 5)).off + 3, none⟩ = some (.int .i64 M.f3) ∧ w'.cell? ⟨(ad.add (t * 5)).block, (ad.add (t * 5)).off + 4, none⟩ = some (.slice Ad M.f4.length cd) ∧ w'.cell? (bd.add (t * 5)) = some (.int .i64 M.f0) ∧ w'.cell? ⟨(bd.add (t * 5)).block, (bd.add (t * 5)).off + 1, none⟩ = some (.int .i64 M.f1) ∧ w'.cell? ⟨(bd.add (t * 5)).block, (bd.add (t * 5)).off + 2, none⟩ = some (.string M.f2) ∧ w'.cell? ⟨(bd.add (t * 5)).block, (bd.add (t * 5)).off + 3, none⟩ = some (.int .i64 M.f3) ∧ w'.cell? ⟨(bd.add (t * 5)).block, (bd.add (t * 5)).off + 4, none⟩ = some (.slice Bd M.f4.length dd)) (ds := [8]) #[false, false, false, false, false, false, false, false, false, false] (by kernel_rfl) rfl rfl HK.out (fun hHeld => ?_)
            refine pure_ (i := 0) (N := some 150) (v := ?_) (a' := ?_) #[true, false, false, false, false, false, false, false, false, false] rfl rfl (by kernel_rfl) (fun _ _ _ h => h) (Or.inl ⟨by rfl, ?_⟩) ?_ ?_
            rotate_left
            · intro w'
              go_simp
              with_reducible rfl
            rotate_left
            · simp only [Act.put, List.setIfInBounds_toArray, List.set_cons_zero, List.set_cons_succ, i64_w, i32_w]
              rfl
            refine pure_ (i := 1) (N := some 151) (v := ?_) (a' := ?_) #[true, true, false, false, false, false, false, false, false, false] rfl rfl (by kernel_rfl) (fun _ _ _ h => h) (Or.inl ⟨by rfl, ?_⟩) ?_ ?_
            rotate_left
            · intro w'
              go_simp
              with_reducible rfl
            rotate_left
            · simp only [Act.put, List.setIfInBounds_toArray, List.set_cons_zero, List.set_cons_succ, i64_w, i32_w]
              rfl
            refine pure_ (i := 2) (N := some 152) (v := ?_) (a' := ?_) #[true, true, true, false, false, false, false, false, false, false] rfl rfl (by kernel_rfl) (fun _ _ _ h => h) (Or.inl ⟨by rfl, ?_⟩) ?_ ?_
            rotate_left
            · intro w'
              go_simp
              with_reducible rfl
            rotate_left
            · simp only [Act.put, List.setIfInBounds_toArray, List.set_cons_zero, List.set_cons_succ, i64_w, i32_w]
              rfl
            refine take_ (i := 3) (N := some 153) (v := ?_) (a' := ?_) #[true, true, true, true, false, false, false, false, false, false] rfl rfl (by kernel_rfl) (fun _ _ _ h => h) (Or.inl ⟨by rfl, ?_⟩) hHeld ?_ ?_
            rotate_left
            · intro w' s0
              go_simp
              with_reducible rfl
            rotate_left
            · simp only [Act.put, List.setIfInBounds_toArray, List.set_cons_zero, List.set_cons_succ, i64_w, i32_w]
              rfl
            refine pure_ (i := 4) (N := some 154) (v := ?_) (a' := ?_) #[true, true, true, true, true, false, false, false, false, false] rfl rfl (by kernel_rfl) (fun _ _ _ h => h) (Or.inl ⟨by rfl, ?_⟩) ?_ ?_
            rotate_left
            · intro w'
              go_simp
              with_reducible rfl
            rotate_left
            · simp only [Act.put, List.setIfInBounds_toArray, List.set_cons_zero, List.set_cons_succ, i64_w, i32_w]
              rfl
            refine pure_ (i := 5) (N := some 155) (v := ?_) (a' := ?_) #[true, true, true, true, true, true, false, false, false, false] rfl rfl (by kernel_rfl) (fun _ _ _ h => h) (Or.inl ⟨by rfl, ?_⟩) ?_ ?_
            rotate_left
            · intro w'
              go_simp
              with_reducible rfl
            rotate_left
            · simp only [Act.put, List.setIfInBounds_toArray, List.set_cons_zero, List.set_cons_succ, i64_w, i32_w]
              rfl
            refine pure_ (i := 6) (N := some 156) (v := ?_) (a' := ?_) #[true, true, true, true, true, true, true, false, false, false] rfl rfl (by kernel_rfl) (fun _ _ _ h => h) (Or.inl ⟨by rfl, ?_⟩) ?_ ?_
            rotate_left
            · intro w'
              go_simp
              with_reducible rfl
            rotate_left
            · simp only [Act.put, List.setIfInBounds_toArray, List.set_cons_zero, List.set_cons_succ, i64_w, i32_w]
              rfl
            refine take_ (i := 7) (N := some 157) (v := ?_) (a' := ?_) #[true, true, true, true, true, true, true, true, false, false] rfl rfl (by kernel_rfl) (fun _ _ _ h => h) (Or.inl ⟨by rfl, ?_⟩) hHeld ?_ ?_
            rotate_left
            · intro w' s0
              go_simp
              with_reducible rfl
            rotate_left
            · simp only [Act.put, List.setIfInBounds_toArray, List.set_cons_zero, List.set_cons_succ, i64_w, i32_w]
              rfl
            refine last_ (i := 8) (N := some 158) #[true, true, true, true, true, true, true, true, true, false] rfl rfl (by kernel_rfl) (by decide) (fun K hK => ?_)
            refine goesV #[] Try.func14 (by kernel_rfl) rfl #[.agg #[.int .i64 M.f0, .int .i64 M.f1, .string M.f2, .int .i64 M.f3, .slice Ad M.f4.length cd], .agg #[.int .i64 M.f0, .int .i64 M.f1, .string M.f2, .int .i64 M.f3, .slice Bd M.f4.length dd]] (by rfl) rfl rfl rfl (by simp [Act.eval]) ?_
            refine Calls.mono (same_yes M Ad Bd _ _ cd dd _ HRA.out HRB.out) ?_
            rintro e w9 ⟨rfl, hb9⟩
            have HB9 := Lib.hid (HBq.out.trans ((Below.trans (Below.drew (Below.refl _ _)) (hb9.mono (Nat.le_refl _))).mono HBq.out.size))
            clear hb9
            refine .inl ⟨_, rfl, ?_⟩
            refine hK.out _ _ ?_
            clear hK K
            refine norm_ (a' := ?_) ?_ ?_
            rotate_left
            · show Act.put _ (some 158) _ = _
              simp only [Act.put, List.setIfInBounds_toArray, List.set_cons_zero, List.set_cons_succ, i64_w, i32_w]
              rfl
            refine pure_ (i := 9) (N := some 20) (v := ?_) (a' := ?_) #[true, true, true, true, true, true, true, true, true, true] rfl rfl (by kernel_rfl) (fun _ _ _ h => h) (Or.inl ⟨by rfl, ?_⟩) ?_ ?_
            rotate_left
            · intro w'
              go_simp
              with_reducible rfl
            rotate_left
            · simp only [Act.put, List.setIfInBounds_toArray, List.set_cons_zero, List.set_cons_succ, i64_w, i32_w]
              rfl
            refine done_ (by kernel_rfl) ?_
            go_wp2_with fail
            exact ⟨⟨t + 1, by omega, by go_num, HB9⟩, by simp [intOf]; omega⟩
          · have dt : decide ((t : Int) < (sel.length : Int)) = false := by simp; omega
            go_wp2_with fail
            go_ret
            exact ⟨rfl, HBW8.out.trans (HBq.out.mono HBW8.out.size)⟩
end Go.Proofs.Ytpflenaoplblkaa.ProBb
