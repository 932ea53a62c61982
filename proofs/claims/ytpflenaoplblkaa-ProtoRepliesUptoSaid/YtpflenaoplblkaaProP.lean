import Derived.Test.YtpflenaoplblkaaProO
namespace Go.Proofs.Ytpflenaoplblkaa.ProP
open Go.RowKit Go.Proofs.YtpflenaoplblkaaW.PrintWords Go.Proofs.YtpflenaoplblkaaW.PrintLast Go.Proofs.Ytpflenaoplblkaa.ProA Go.Proofs.Ytpflenaoplblkaa.ProB Go.Proofs.Ytpflenaoplblkaa.ProC Go.Proofs.Ytpflenaoplblkaa.ProI Go.Proofs.Ytpflenaoplblkaa.ProD Go.Proofs.Ytpflenaoplblkaa.ProE Go.Proofs.Ytpflenaoplblkaa.ProF Go.Proofs.Ytpflenaoplblkaa.ProG Go.Proofs.Ytpflenaoplblkaa.ProH Go.Proofs.Ytpflenaoplblkaa.ProJ Go.Proofs.Ytpflenaoplblkaa.ProK Go.Proofs.Ytpflenaoplblkaa.ProL Go.Proofs.Ytpflenaoplblkaa.ProM Go.Proofs.Ytpflenaoplblkaa.ProN Go.Proofs.Ytpflenaoplblkaa.ProO
set_option linter.unusedVariables false
set_option linter.unusedSimpArgs false
/-! what Feed answers: the messages, the error, what waits -/
def feedL (tab : List (List PS)) : Nat → List Int → List Flds × Int × List Int
  | 0, b => ([], 0, b)
  | k + 1, b => match cutS tab b with
    | .error q => ([], q, [])
    | .ok none => ([], 0, b)
    | .ok (some (F, n)) => (F :: (feedL tab k (b.drop n)).1, (feedL tab k (b.drop n)).2)
def feedS (tab : List (List PS)) (b : List Int) : List Flds × Int × List Int := feedL tab (b.length + 1) b
theorem cutS_some {tab : List (List PS)} {b : List Int} {F : Flds} {n : Nat} (h : cutS tab b = .ok (some (F, n))) : 5 ≤ n ∧ n ≤ b.length ∧ n ≤ 262404 := by
  unfold cutS at h
  by_cases h1 : b.length < 4
  · rw [if_pos h1] at h; cases h
  rw [if_neg h1] at h
  by_cases h2 : be (b.take 4) < 1 ∨ 262400 < be (b.take 4)
  · rw [if_pos h2] at h; cases h
  rw [if_neg h2] at h
  by_cases h3 : b.length < 4 + len1 b 4
  · rw [if_pos h3] at h; cases h
  rw [if_neg h3] at h
  cases hd : decS tab ((b.drop 4).take (len1 b 4)) with
  | error q => rw [hd] at h; cases h
  | ok F' =>
    rw [hd] at h
    simp only [Except.ok.injEq, Option.some.injEq, Prod.mk.injEq] at h
    obtain ⟨_, rfl⟩ := h
    have : len1 b 4 = (be (b.take 4)).toNat := rfl
    omega
theorem decParts_err {ps : List PS} : ∀ {xs : List Int} {F : Flds} {q : Int}, decParts ps xs F = .error q → q = 121 ∨ q = 123 := by
  induction ps with
  | nil =>
    intro xs F q h
    simp only [decParts] at h
    split at h
    · cases h
    · injection h with h; exact .inl h.symm
  | cons p ps ih =>
    intro xs F q h
    simp only [decParts] at h
    split at h
    · injection h with h; exact .inl h.symm
    · split at h
      · exact ih h
      · injection h with h; exact .inr h.symm
theorem decS_err {tab : List (List PS)} {xs : List Int} {q : Int} (h : decS tab xs = .error q) : q = 121 ∨ q = 122 ∨ q = 123 := by
  unfold decS at h
  split at h
  · injection h with h; exact .inl h.symm
  · split at h
    · injection h with h; exact .inr (.inl h.symm)
    · split at h
      · injection h with h; exact .inr (.inl h.symm)
      · rcases decParts_err h with h | h
        · exact .inl h
        · exact .inr (.inr h)
theorem cutS_err {tab : List (List PS)} {b : List Int} {q : Int} (h : cutS tab b = .error q) : q = 121 ∨ q = 122 ∨ q = 123 := by
  unfold cutS at h
  split at h
  · cases h
  split at h
  · injection h with h; exact .inl h.symm
  split at h
  · cases h
  split at h
  · rename_i q' hd
    injection h with h
    subst h
    exact decS_err hd
  · cases h
theorem feedL_more {tab : List (List PS)} : ∀ (k : Nat) (b : List Int), b.length < k → feedL tab (k + 1) b = feedL tab k b := by
  intro k
  induction k with
  | zero => intro b h; omega
  | succ k ih =>
    intro b h
    rw [feedL]
    conv => rhs; rw [feedL]
    cases hc : cutS tab b with
    | error q => rfl
    | ok r =>
      cases r with
      | none => rfl
      | some x =>
        obtain ⟨F, n⟩ := x
        obtain ⟨h1, h2, _⟩ := cutS_some hc
        have : (b.drop n).length < k := by rw [List.length_drop]; omega
        simp only
        rw [ih _ this]
theorem feedL_enough {tab : List (List PS)} (b : List Int) : ∀ (j : Nat), feedL tab (b.length + 1 + j) b = feedS tab b
  | 0 => rfl
  | j + 1 => by rw [show b.length + 1 + (j + 1) = (b.length + 1 + j) + 1 by omega, feedL_more _ _ (by omega)]; exact feedL_enough b j
theorem feedS_err {tab : List (List PS)} {b : List Int} {q : Int} (h : cutS tab b = .error q) : feedS tab b = ([], q, []) := by
  unfold feedS feedL
  rw [h]
theorem feedS_wait {tab : List (List PS)} {b : List Int} (h : cutS tab b = .ok none) : feedS tab b = ([], 0, b) := by
  unfold feedS feedL
  rw [h]
theorem feedS_step {tab : List (List PS)} {b : List Int} {F : Flds} {n : Nat} (h : cutS tab b = .ok (some (F, n))) : feedS tab b = (F :: (feedS tab (b.drop n)).1, (feedS tab (b.drop n)).2) := by
  obtain ⟨h1, h2, _⟩ := cutS_some h
  conv => lhs; unfold feedS feedL
  rw [h]
  simp only
  have e : b.length = (b.drop n).length + 1 + (n - 1) := by rw [List.length_drop]; omega
  rw [e, feedL_enough]
/-! Feed -/
def lenV : Value → Nat | .slice _ n _ => n | _ => 0
def FeedPost (w : World) (g : Nat) (wv : Value) (r : List Flds × Int × List Int) (e : Ending) (w' : World) : Prop :=
  ∃ lv wv', e = .returned (.tuple #[lv, .int .i64 r.2.1]) ∧ Kd.R k35 35 w' w.heap.size (fun k => some k ≠ wv'.ownBlock) lv (r.1.map msgOf) ∧ Blk w' g #[wv', .bool (r.2.1 != 0)] 67 ∧ Own w' w.heap.size (fun _ => True) wv' r.2.2 ∧ Tu (g :: wv.ownBlock.toList) w w'
set_option maxRecDepth 100000 in
theorem feed_dead (w : World) (g : Nat) (wv : Value) (A : Option Addr) (n c : Nat) (hd : Blk w g #[wv, .bool true] 67) :
    Calls Try.prog 10 #[pt g, .slice A n c] w fun e w' => e = .returned (.tuple #[.slice none 0 0, .int .i64 124]) ∧ w = w' := by
  have h1 : w.cell? ⟨g, 1, none⟩ = some (.bool true) := Blk.cell (i := 1) hd rfl
  go_enter Try.func10, Try.ntmps10
  go_wp2_with fail
  go_ret2
  exact ⟨rfl, rfl⟩
structure FeedSt (w2 wr : World) (lv : Value) (ms : List Flds) (A : Option Addr) (c : Nat) (bs : List Int) (all : List Int) : Prop where
  below : Below w2.heap.size w2 wr
  row : Kd.R k35 35 wr w2.heap.size (fun _ => True) lv (ms.map msgOf)
  bytes : BytesAt w2 A bs.length bs
  u8 : u8s bs
  cap : bs.length ≤ c
  len : bs.length ≤ all.length
  count : ms.length + bs.length ≤ all.length
  eq : feedS msgTab all = (ms ++ (feedS msgTab bs).1, (feedS msgTab bs).2)
theorem rowKeep {α : Type} {d : Kd α} {e : Nat} {w2 wr w' : World} {S : List Nat} {lv : Value} {xs : List α} (h : d.R e wr w2.heap.size (fun _ => True) lv xs) (ht : Tu S wr w') (hS : ∀ k, k ∈ S → k < w2.heap.size) : d.R e w' w2.heap.size (fun k => w2.heap.size ≤ k ∧ k < wr.heap.size) lv xs :=
  Kd.R_mono (Kd.R_move (Kd.R_bound h) (fun k hk => ht.block k hk.2.2.1 (fun hm => by have := hS k hm; have := hk.2.1; omega))) (fun k hk => ⟨hk.2.1, hk.2.2.1⟩)
theorem feed_end {w w2 wr W' : World} {g : Nat} {wv wv' lv : Value} {ms : List Flds} {code : Int} {rest : List Int} {r : List Flds × Int × List Int} (hr : r = (ms, code, rest)) (hT2 : Tu (g :: wv.ownBlock.toList) w w2) (hT : Tu [g] wr W') (hB : Below w2.heap.size w2 wr)
    (hrow : Kd.R k35 35 wr w2.heap.size (fun _ => True) lv (ms.map msgOf)) (hg : g < w2.heap.size) (b : Bool) (hb : (code != 0) = b) (hd : Blk W' g #[wv', .bool b] 67) (ho : Own W' wr.heap.size (fun _ => True) wv' rest) :
    FeedPost w g wv r (.returned (.tuple #[lv, .int .i64 code])) W' := by
  subst hr
  subst hb
  have hsz := hT2.size
  have hsz2 := hB.size
  refine ⟨lv, wv', rfl, Kd.R_lower (Kd.R_mono (rowKeep hrow hT (by simp; omega)) (fun k hk e => ?_)) hsz, hd, Kd.R_lower ho (by omega), (hT2.trans (Tu.of_below hB)).trans (hT.mono (fun i hi => .inl (by simp at hi; simp [hi])))⟩
  have := Kd.R_base ho k e.symm
  omega
theorem info35 : (Try.prog.info? 35).map (fun i => (i.zero, i.size, i.bytes)) = some (some (.agg #[.int .i64 0, .int .i64 0, .string ⟨#[]⟩, .int .i64 0, .slice none 0 0]), 5, 64) := by kernel_rfl
set_option maxHeartbeats 4000000 in
set_option maxRecDepth 100000 in
theorem feed_ok (w : World) (g base c : Nat) (wv : Value) (ws ys : List Int) (A : Option Addr)
    (hd : Blk w g #[wv, .bool false] 67) (hw : Own w base (fun _ => True) wv ws) (hb : base ≤ w.heap.size) (hx : BytesAt w A ys.length ys) (hc : ys.length ≤ c) (huw : u8s ws) (hu : u8s ys) (hbig : ws.length + ys.length ≤ 1000000000) :
    Calls Try.prog 10 #[pt g, .slice A ys.length c] w (FeedPost w g wv (feedS msgTab (ws ++ ys))) := by
  obtain ⟨B, cB, hwv, hcB, _⟩ := Kd.R_reads hw
  have hgne : some g ≠ wv.ownBlock := Kd.R_ne hw hd (by decide)
  subst hwv
  have h0 : w.cell? ⟨g, 0, none⟩ = some (.slice B ws.length cB) := Blk.cell (i := 0) hd rfl
  have h1 : w.cell? ⟨g, 1, none⟩ = some (.bool false) := Blk.cell (i := 1) hd rfl
  have HD := Lib.hid hd
  have HW := Lib.hid hw
  have HX := Lib.hid hx
  have HG := Lib.hid hgne
  clear hd hw hx hgne
  go_enter Try.func10, Try.ntmps10
  go_wp2_with (at_builtin; refine app_bytes (w0 := w) base rfl (.tmp 19) (.tmp 20) rfl _ ws ys A ys.length c (fun _ => True) rfl rfl HW.out HX.out (fun _ _ => trivial) (Below.refl _ _) hb (by omega) ?_; intro v1 w1 ho hb1 hg1 hat1; have HO := Lib.hid ho; have HG1 := Lib.hid hg1; have HAT := Lib.hid hat1; clear ho hg1 hat1 hb1)
  refine (messages_ok w1).mono ?_
  rintro e w2 ⟨tv, rfl, htab, hb2⟩
  obtain ⟨A1, c1, hv1, hc1, hr1⟩ := Kd.R_reads HO.out
  subst hv1
  have hlt : g < w.heap.size := Blk.lt HD.out
  have hT1 : Tu (g :: (Value.slice B ws.length cB).ownBlock.toList) w w1 := (Tu.refl _ _).grown HG1.out (fun k hk => .inl (by simp only [List.mem_cons, Option.mem_toList]; exact .inr hk))
  have hT2 := hT1.trans (Tu.of_below hb2)
  have hd2 : Blk w2 g #[.slice B ws.length cB, .bool false] 67 := (hb2.block g (by have := hT1.size; omega)).trans ((HG1.out.block g hlt HG.out).trans HD.out)
  have hs2 : g < w2.heap.size := Blk.lt hd2
  have hs3 := hT2.size
  have HT2 := Lib.hid hT2
  have HD2 := Lib.hid hd2
  have HTB := Lib.hid htab
  have HS := Lib.hid (show FeedSt w2 w2 (.slice none 0 0) [] A1 c1 (ws ++ ys) (ws ++ ys) from ⟨Below.refl _ _, Kd.R_nil _ _ _ _ _, BytesAt.below (B := 0) hr1 hb2, fun x hx => by rcases List.mem_append.1 hx with h | h; exact huw x h; exact hu x h, hc1, by omega, by simp, by simp⟩)
  clear hT1 hT2 hd2 htab hb2 hr1 hc1 h0 h1
  go_wp2_with fail
  go_loopw [6, 7] (fun l b wr => ∃ (ms : List Flds) (A' : Option Addr) (c' : Nat) (bs : List Int), b = .slice A' bs.length c' ∧ Hid (FeedSt w2 wr l ms A' c' bs (ws ++ ys))) (fun _ b _ => lenV b)
  case atStart => exact ⟨[], A1, c1, _, by rw [List.length_append], HS⟩
  case round =>
    clear HS
    obtain ⟨ms, A', c', bs, rfl, HS⟩ := hrel
    go_wp2_with fail
    refine (cut_ok msgTab wr w1.heap.size w2.heap.size c' tv A' bs (HTB.out.step (fun q _ hq => HS.out.below.block q hq) (Nat.le_refl _) (Nat.le_refl _)) HS.out.below.size msgTab_ok (BytesAt.below (B := 0) HS.out.bytes HS.out.below) HS.out.u8 HS.out.cap (by have := HS.out.len; rw [List.length_append] at this; omega)).mono ?_
    rintro e w3 ⟨F, B', m, cc, size, code, rfl, hb3, hcase⟩
    unfold Flds.cells
    cases hcut : cutS msgTab bs with
    | error q =>
      rw [hcut] at hcase
      obtain rfl : code = q := hcase
      have dq : (code != 0) = true := by
        rcases cutS_err hcut with h | h | h <;> rw [h] <;> rfl
      have hb4 := HS.out.below.trans (hb3.mono HS.out.below.size)
      have hd3 := Blk.below HD2.out hb4
      have e0 := Blk.cell (i := 0) hd3 rfl
      have e1 := Blk.cell (i := 1) hd3 rfl
      have ez0 := Blk.frozen (i := 0) hd3
      have ez1 := Blk.frozen (i := 1) hd3
      have elt := Blk.lt hd3
      have HB3 := Lib.hid hb3
      have HB4 := Lib.hid hb4
      have HC := Lib.hid hcut
      have HD3 := Lib.hid hd3
      clear hb3 hb4 hcut hd3
      go_wp2_with fail
      go_ret2
      refine feed_end (wr := wr) (ms := ms) (rest := []) ?_ HT2.out ((((Tu.of_below HB3.out).setCell (.inl (by simp)) _).setCell (.inl (by simp)) _).alloc _) HS.out.below HS.out.row hs2 true dq (blkOld (Blk.set (i := 1) (Blk.set (i := 0) HD3.out _) _)) (Kd.R_nil _ _ _ _ _)
      rw [HS.out.eq, feedS_err HC.out, List.append_nil]
    | ok r =>
      cases r with
      | none =>
        rw [hcut] at hcase
        obtain ⟨rfl, rfl⟩ := hcase
        have hb4 := HS.out.below.trans (hb3.mono HS.out.below.size)
        have hd3 := Blk.below HD2.out hb4
        have e0 := Blk.cell (i := 0) hd3 rfl
        have ez0 := Blk.frozen (i := 0) hd3
        have elt := Blk.lt hd3
        have HB3 := Lib.hid hb3
        have HB4 := Lib.hid hb4
        have HC := Lib.hid hcut
        have HD3 := Lib.hid hd3
        clear hb3 hb4 hcut hd3
        go_wp2_with fail
        have HA := Lib.hid (show Below wr.heap.size wr (w3.alloc (Obj.cells #[Value.int IntKind.i64 F.kind, Value.int IntKind.i64 F.tn, Value.int IntKind.i64 F.n, Value.int IntKind.i64 F.m, Value.string F.name, Value.slice B' m cc] 71)) from HB3.out.alloc HB3.out.size _)
        have HD4 := Lib.hid (show Blk (w3.alloc (Obj.cells #[Value.int IntKind.i64 F.kind, Value.int IntKind.i64 F.tn, Value.int IntKind.i64 F.n, Value.int IntKind.i64 F.m, Value.string F.name, Value.slice B' m cc] 71)) g #[.slice B ws.length cB, .bool false] 67 from blkOld HD3.out)
        generalize w3.alloc (Obj.cells #[Value.int IntKind.i64 F.kind, Value.int IntKind.i64 F.tn, Value.int IntKind.i64 F.n, Value.int IntKind.i64 F.m, Value.string F.name, Value.slice B' m cc] 71) = w4 at HA HD4 ⊢
        refine (clone_ok A' bs c' w4 (BytesAt.below (B := 0) (BytesAt.below (B := 0) HS.out.bytes HS.out.below) HA.out) (by have := HS.out.len; rw [List.length_append] at this; omega)).mono ?_
        rintro e w5 ⟨wv', rfl, ho, hb5⟩
        obtain ⟨B5, c5, hv5, hc5, _⟩ := Kd.R_reads ho
        subst hv5
        have hd5 := Blk.below HD4.out hb5
        clear e0 ez0 elt
        have e0 := Blk.cell (i := 0) hd5 rfl
        have ez0 := Blk.frozen (i := 0) hd5
        have elt := Blk.lt HD4.out
        have hs4 := HA.out.size
        have HD5 := Lib.hid hd5
        have HO5 := Lib.hid ho
        have HB5 := Lib.hid hb5
        clear hd5 ho hb5 hc5
        go_wp2_with fail
        go_ret2
        refine feed_end (wr := wr) (ms := ms) (rest := bs) ?_ HT2.out (((Tu.of_below HA.out).trans (Tu.of_below HB5.out)).setCell (.inl (by simp)) _) HS.out.below HS.out.row hs2 false rfl (Blk.set (i := 0) HD5.out _) (Kd.R_lower (own_tu (S := [g]) HO5.out ((Tu.refl _ _).setCell (.inl (by simp)) _) (by simp; omega)) hs4)
        rw [HS.out.eq, feedS_wait HC.out, List.append_nil]
      | some x =>
        obtain ⟨F', n'⟩ := x
        rw [hcut] at hcase
        obtain ⟨rfl, rfl, hF, ho3⟩ := hcase
        subst hF
        obtain ⟨hn1, hn2, hn3⟩ := cutS_some hcut
        have dn : ((n' : Int) == 0) = false := by simp; omega
        obtain ⟨i5, hi5, hz5⟩ := info5'
        obtain ⟨A2, hrun, hread, hcap⟩ := print_drop_of (P := Try.prog) (Value.int .u8) (0 : Int) 22 5 .i64 Try.underlying22 hi5 hz5 A' c' bs (n' : Int) (by omega) (by omega) HS.out.cap
        rw [Int.toNat_natCast] at hrun hread hcap
        have HB3 := Lib.hid hb3
        have HC := Lib.hid hcut
        have HO3 := Lib.hid ho3
        have HRD := Lib.hid hread
        have HCP := Lib.hid hcap
        clear hb3 hcut ho3 hread hcap hi5 hz5
        go_wp2_with (first
          | (refine (message_any F B' m cc _).mono ?_; rintro e w4 ⟨rfl, hb4⟩; have HB4 := Lib.hid (show Below w3.heap.size w3 w4 from (ba _).trans (hb4.mono (by simp))); clear hb4)
          | ((with_reducible refine gate_builtin (b := .append) (xs := #[.tmp 50, .tmp 53]) rfl ?_); at_builtin; refine Kd.R_append k35 (w0 := w2) w2.heap.size rfl (.tmp 50) (.tmp 53) 27 35 (.agg #[.int .i64 0, .int .i64 0, .string ⟨#[]⟩, .int .i64 0, .slice none 0 0]) 64 rfl Try.underlying27 info35 rfl (by decide) (by omega) u6 (ms.map msgOf) (msgOf F) [.int .i64 F.kind, .int .i64 F.tn, .string F.name, .int .i64 F.n, .slice B' m cc] (fun _ => True) (fun k => wr.heap.size ≤ k) rfl rfl ?hp ?hokp (fun _ _ => trivial) ?hrow ?hbel ?hbase ?hl ?_; (case hp => exact k35_mkM _ _ _ (msgOf F) (Kd.R_lower (Kd.R_mono (Kd.R_bound (Kd.R_below HO3.out HB4.out)) (fun k hk => hk.2.1)) HS.out.below.size)); (case hokp => exact fun k hk => ⟨trivial, fun e => by obtain ⟨inner, ho⟩ := Kd.R_own HS.out.row; have := own_lt ho k e.symm; omega⟩); (case hrow => exact Kd.R_below (Kd.R_below HS.out.row HB3.out) HB4.out); (case hbel => exact HS.out.below.trans ((HB3.out.trans (HB4.out.mono HB3.out.size)).mono HS.out.below.size)); (case hbase => have h1 := HS.out.below.size; have h2 := HB3.out.size; have h3 := HB4.out.size; omega); (case hl => have h1 := HS.out.count; rw [List.length_append] at h1; rw [List.length_map]; omega); intro v1 w5 hr5 hb5 hg5 hat5; have HR5 := Lib.hid hr5; have HB5 := Lib.hid hb5; clear hr5 hb5 hg5 hat5))
        refine ⟨⟨ms ++ [F], A2, c' - n', bs.drop n', by rw [List.length_drop], Lib.hid ?_⟩, by simp [lenV]; omega⟩
        have hst := HS.out
        refine ⟨HB5.out, by rw [List.map_append]; exact HR5.out, BytesAt.of (HRD.out w2 (BytesAt.nums hst.bytes)), u8_drop hst.u8 n', HCP.out, by have := hst.len; rw [List.length_drop]; omega, by have := hst.count; rw [show (ms ++ [F]).length = ms.length + 1 by simp, List.length_drop]; omega, ?_⟩
        rw [hst.eq, feedS_step HC.out]
        simp
end Go.Proofs.Ytpflenaoplblkaa.ProP
