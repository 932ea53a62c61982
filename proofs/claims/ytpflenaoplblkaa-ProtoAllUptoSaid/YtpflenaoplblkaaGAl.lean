import Derived.Test.YtpflenaoplblkaaGAk
section
namespace Go.Proofs.Ytpflenaoplblkaa.PaK
open Go.RowKit YtpflenaoplblkaaW.PrintWords YtpflenaoplblkaaW.PrintLast ProA ProB ProC ProI ProD ProG ProJ ProK ProL ProM ProN ProO ProP ProQ ProR ProU ProZ ProBb PaA
open ProH (msgTab repTab ba)
open ProS ProH
set_option linter.unusedVariables false
set_option linter.unusedSimpArgs false
def ghost {α : Type} (d : Kd α) : Kd (α × Option Nat) where
 sz := d.sz
 E := d.E
 K := fun w x => d.K w x.1
 M := fun w base ok x => d.M w base (fun k => ok k ∧ x.2 = some k) x.1
 K_len := fun h => d.K_len h
 K_one := fun h => d.K_one h
 K_below := fun hb h => d.K_below hb h
 K_of_M := fun h => d.K_of_M h
 M_mono := fun hok h => d.M_mono (fun k hk => ⟨hok k hk.1, hk.2⟩) h
 M_bound := fun h => d.M_mono (fun k hk => ⟨⟨hk.1.1, hk.2⟩, hk.1.2⟩) (d.M_bound h)
 M_move := fun hm h => d.M_move (fun k hk => hm k hk.1) h
 M_lower := fun hb h => d.M_lower hb h
def GOk {α : Type} (lo hi : Nat) (gs : List (α × Option Nat)) : Prop := (gs.filterMap (·.2)).Nodup ∧ ∀ x ∈ gs, ∀ k, x.2 = some k → lo ≤ k ∧ k < hi
theorem gok_nil {α : Type} (lo hi : Nat) : GOk lo hi ([] : List (α × Option Nat)) := ⟨by simp, by simp⟩
theorem gok_mono {α : Type} {lo lo' hi hi' : Nat} {gs : List (α × Option Nat)} (h : GOk lo hi gs) (h1 : lo' ≤ lo) (h2 : hi ≤ hi') : GOk lo' hi' gs := ⟨h.1, fun x hx k hk => by have := h.2 x hx k hk; omega⟩
theorem gok_snoc {α : Type} {lo hi hi' : Nat} {gs : List (α × Option Nat)} {x : α} {nb : Option Nat} (h : GOk lo hi gs) (hn : ∀ k, nb = some k → hi ≤ k ∧ k < hi') (h1 : hi ≤ hi') (h2 : lo ≤ hi) : GOk lo hi' (gs ++ [(x, nb)]) := by
 refine ⟨?_, ?_⟩
 ·
  rw [List.filterMap_append, List.nodup_append]
  refine ⟨h.1, ?_, ?_⟩
  · cases nb <;> simp
  ·
   intro a ha b hb
   obtain ⟨y, hy, hya⟩ := List.mem_filterMap.1 ha
   have h3 := h.2 y hy a hya
   cases nb with
   | none => simp at hb
   | some k =>
    simp at hb
    subst hb
    have := hn b rfl
    omega
 ·
  intro y hy k hk
  rcases List.mem_append.1 hy with hy | hy
  · have := h.2 y hy k hk; omega
  ·
   simp at hy
   subst hy
   have := hn k hk
   omega
theorem own_exact {w : World} {base : Nat} {ok : Nat → Prop} {v : Value} {xs : List Int} (h : Own w base ok v xs) : Own w base (fun k => ok k ∧ v.ownBlock = some k) v xs := ⟨fun k hk => ⟨h.1 k hk, hk⟩, h.2.imp_ (fun _ _ hp => hp)⟩
theorem ghost_len {α β : Type} {gs : List (α × Option Nat)} {ms : List β} {f : β → α} (h : gs.map (·.1) = ms.map f) : gs.length = ms.length := by
 have := congrArg List.length h
 simpa using this
def Feed2Post (w : World) (g : Nat) (wv : Value) (r : List Flds × Int × List Int) (e : Ending) (w' : World) : Prop :=
  ∃ lv wv' gs, e = .returned (.tuple #[lv, .int .i64 r.2.1]) ∧ Kd.R (ghost k35) 35 w' w.heap.size (fun k => some k ≠ wv'.ownBlock) lv gs ∧ gs.map (·.1) = r.1.map msgOf ∧ GOk w.heap.size w'.heap.size gs ∧ Blk w' g #[wv', .bool (r.2.1 != 0)] 67 ∧ Own w' w.heap.size (fun _ => True) wv' r.2.2 ∧ Tu (g :: wv.ownBlock.toList) w w'
structure Feed2St (w2 wr : World) (lv : Value) (ms : List Flds) (gs : List (S35 × Option Nat)) (A : Option Addr) (c : Nat) (bs : List Int) (all : List Int) : Prop where
 below : Below w2.heap.size w2 wr
 row : Kd.R (ghost k35) 35 wr w2.heap.size (fun _ => True) lv gs
 names : gs.map (·.1) = ms.map msgOf
 gok : GOk w2.heap.size wr.heap.size gs
 bytes : BytesAt w2 A bs.length bs
 u8 : u8s bs
 cap : bs.length ≤ c
 len : bs.length ≤ all.length
 count : ms.length + bs.length ≤ all.length
 eq : feedS msgTab all = (ms ++ (feedS msgTab bs).1, (feedS msgTab bs).2)
theorem feed2_end {w w2 wr W' : World} {g : Nat} {wv wv' lv : Value} {ms : List Flds} {code : Int} {rest : List Int} {r : List Flds × Int × List Int} (hr : r = (ms, code, rest)) (hT2 : Tu (g :: wv.ownBlock.toList) w w2) (hT : Tu [g] wr W') (hB : Below w2.heap.size w2 wr)
  {gs : List (S35 × Option Nat)} (hrow : Kd.R (ghost k35) 35 wr w2.heap.size (fun _ => True) lv gs) (hnm : gs.map (·.1) = ms.map msgOf) (hgk : GOk w2.heap.size wr.heap.size gs) (hg : g < w2.heap.size) (b : Bool) (hb : (code != 0) = b) (hd : Blk W' g #[wv', .bool b] 67) (ho : Own W' wr.heap.size (fun _ => True) wv' rest) :
  Feed2Post w g wv r (.returned (.tuple #[lv, .int .i64 code])) W' := by
 subst hr
 subst hb
 have hsz := hT2.size
 have hsz2 := hB.size
 refine ⟨lv, wv', gs, rfl, Kd.R_lower (Kd.R_mono (rowKeep hrow hT (by simp; omega)) (fun k hk e => ?_)) hsz, hnm, gok_mono hgk hsz hT.size, hd, Kd.R_lower ho (by omega), (hT2.trans (Tu.of_below hB)).trans (hT.mono (fun i hi => .inl (by simp at hi; simp [hi])))⟩
 have := Kd.R_base ho k e.symm
 omega
theorem own_lt3 {w : World} {base : Nat} {ok : Nat → Prop} {v : Value} {xs : List Int} (h : Own w base ok v xs) (k : Nat) (hk : v.ownBlock = some k) : k < w.heap.size := by
 obtain ⟨inner, ho⟩ := Kd.R_own h
 exact own_lt ho k hk
set_option maxHeartbeats 4000000 in
set_option maxRecDepth 100000 in
theorem feed2_ok (w : World) (g base c : Nat) (wv : Value) (ws ys : List Int) (A : Option Addr)
  (hd : Blk w g #[wv, .bool false] 67) (hw : Own w base (fun _ => True) wv ws) (hb : base ≤ w.heap.size) (hx : BytesAt w A ys.length ys) (hc : ys.length ≤ c) (huw : u8s ws) (hu : u8s ys) (hbig : ws.length + ys.length ≤ 1000000000) :
  Calls Try.prog 10 #[pt g, .slice A ys.length c] w (Feed2Post w g wv (feedS msgTab (ws ++ ys))) := by
 obtain ⟨B, cB, hwv, hcB, _⟩ := Kd.R_reads hw
 have hgne : some g ≠ wv.ownBlock := Kd.R_ne hw hd (by decide)
 subst hwv
 have h0 : w.cell? ⟨g, 0, none⟩ = some (.slice B ws.length cB) := Blk.cell (i := 0) hd rfl
 have h1 : w.cell? ⟨g, 1, none⟩ = some (.bool false) := Blk.cell (i := 1) hd rfl
 have HD := Lib.hid hd
 have HW := Lib.hid hw
 have HX := Lib.hid hx
 have HG := Lib.hid hgne
 clear hd hw hx hgne
 go_enter Try.func10, Try.ntmps10
 go_wp2_with (at_builtin; refine app_bytes (w0 := w) base rfl (.tmp 19) (.tmp 20) rfl _ ws ys A ys.length c (fun _ => True) rfl rfl HW.out HX.out (fun _ _ => trivial) (Below.refl _ _) hb (by omega) ?_; intro v1 w1 ho hb1 hg1 hat1; have HO := Lib.hid ho; have HG1 := Lib.hid hg1; have HAT := Lib.hid hat1; clear ho hg1 hat1 hb1)
 refine (messages_ok w1).mono ?_
 rintro e w2 ⟨tv, rfl, htab, hb2⟩
 obtain ⟨A1, c1, hv1, hc1, hr1⟩ := Kd.R_reads HO.out
 subst hv1
 have hlt : g < w.heap.size := Blk.lt HD.out
 have hT1 : Tu (g :: (Value.slice B ws.length cB).ownBlock.toList) w w1 := (Tu.refl _ _).grown HG1.out (fun k hk => .inl (by simp only [List.mem_cons, Option.mem_toList]; exact .inr hk))
 have hT2 := hT1.trans (Tu.of_below hb2)
 have hd2 : Blk w2 g #[.slice B ws.length cB, .bool false] 67 := (hb2.block g (by have := hT1.size; omega)).trans ((HG1.out.block g hlt HG.out).trans HD.out)
 have hs2 : g < w2.heap.size := Blk.lt hd2
 have hs3 := hT2.size
 have HT2 := Lib.hid hT2
 have HD2 := Lib.hid hd2
 have HTB := Lib.hid htab
 have HS := Lib.hid (show Feed2St w2 w2 (.slice none 0 0) [] [] A1 c1 (ws ++ ys) (ws ++ ys) from ⟨Below.refl _ _, Kd.R_nil _ _ _ _ _, rfl, gok_nil _ _, BytesAt.below (B := 0) hr1 hb2, fun x hx => by rcases List.mem_append.1 hx with h | h; exact huw x h; exact hu x h, hc1, by omega, by simp, by simp⟩)
 clear hT1 hT2 hd2 htab hb2 hr1 hc1 h0 h1
 go_wp2_with fail
 go_loopw [6, 7] (fun l b wr => ∃ (ms : List Flds) (gs : List (S35 × Option Nat)) (A' : Option Addr) (c' : Nat) (bs : List Int), b = .slice A' bs.length c' ∧ Hid (Feed2St w2 wr l ms gs A' c' bs (ws ++ ys))) (fun _ b _ => lenV b)
 case atStart => exact ⟨[], [], A1, c1, _, by rw [List.length_append], HS⟩
 case round =>
  clear HS
  obtain ⟨ms, gs, A', c', bs, rfl, HS⟩ := hrel
  go_wp2_with fail
  refine (cut_ok msgTab wr w1.heap.size w2.heap.size c' tv A' bs (HTB.out.step (fun q _ hq => HS.out.below.block q hq) (Nat.le_refl _) (Nat.le_refl _)) HS.out.below.size msgTab_ok (BytesAt.below (B := 0) HS.out.bytes HS.out.below) HS.out.u8 HS.out.cap (by have := HS.out.len; rw [List.length_append] at this; omega)).mono ?_
  rintro e w3 ⟨F, B', m, cc, size, code, rfl, hb3, hcase⟩
  unfold Flds.cells
  cases hcut : cutS msgTab bs with
  | error q =>
   rw [hcut] at hcase
   obtain rfl : code = q := hcase
   have dq : (code != 0) = true := by
    rcases cutS_err hcut with h | h | h <;> rw [h] <;> rfl
   have hb4 := HS.out.below.trans (hb3.mono HS.out.below.size)
   have hd3 := Blk.below HD2.out hb4
   have e0 := Blk.cell (i := 0) hd3 rfl
   have e1 := Blk.cell (i := 1) hd3 rfl
   have ez0 := Blk.frozen (i := 0) hd3
   have ez1 := Blk.frozen (i := 1) hd3
   have elt := Blk.lt hd3
   have HB3 := Lib.hid hb3
   have HB4 := Lib.hid hb4
   have HC := Lib.hid hcut
   have HD3 := Lib.hid hd3
   clear hb3 hb4 hcut hd3
   go_wp2_with fail
   go_ret2
   refine feed2_end (wr := wr) (ms := ms) (rest := []) ?_ HT2.out ((((Tu.of_below HB3.out).setCell (.inl (by simp)) _).setCell (.inl (by simp)) _).alloc _) HS.out.below HS.out.row HS.out.names HS.out.gok hs2 true dq (blkOld (Blk.set (i := 1) (Blk.set (i := 0) HD3.out _) _)) (Kd.R_nil _ _ _ _ _)
   rw [HS.out.eq, feedS_err HC.out, List.append_nil]
  | ok r =>
   cases r with
   | none =>
    rw [hcut] at hcase
    obtain ⟨rfl, rfl⟩ := hcase
    have hb4 := HS.out.below.trans (hb3.mono HS.out.below.size)
    have hd3 := Blk.below HD2.out hb4
    have e0 := Blk.cell (i := 0) hd3 rfl
    have ez0 := Blk.frozen (i := 0) hd3
    have elt := Blk.lt hd3
    have HB3 := Lib.hid hb3
    have HB4 := Lib.hid hb4
    have HC := Lib.hid hcut
    have HD3 := Lib.hid hd3
    clear hb3 hb4 hcut hd3
    go_wp2_with fail
    have HA := Lib.hid (show Below wr.heap.size wr (w3.alloc (Obj.cells #[Value.int IntKind.i64 F.kind, Value.int IntKind.i64 F.tn, Value.int IntKind.i64 F.n, Value.int IntKind.i64 F.m, Value.string F.name, Value.slice B' m cc] 71)) from HB3.out.alloc HB3.out.size _)
    have HD4 := Lib.hid (show Blk (w3.alloc (Obj.cells #[Value.int IntKind.i64 F.kind, Value.int IntKind.i64 F.tn, Value.int IntKind.i64 F.n, Value.int IntKind.i64 F.m, Value.string F.name, Value.slice B' m cc] 71)) g #[.slice B ws.length cB, .bool false] 67 from blkOld HD3.out)
    generalize w3.alloc (Obj.cells #[Value.int IntKind.i64 F.kind, Value.int IntKind.i64 F.tn, Value.int IntKind.i64 F.n, Value.int IntKind.i64 F.m, Value.string F.name, Value.slice B' m cc] 71) = w4 at HA HD4 ⊢
    refine (clone_ok A' bs c' w4 (BytesAt.below (B := 0) (BytesAt.below (B := 0) HS.out.bytes HS.out.below) HA.out) (by have := HS.out.len; rw [List.length_append] at this; omega)).mono ?_
    rintro e w5 ⟨wv', rfl, ho, hb5⟩
    obtain ⟨B5, c5, hv5, hc5, _⟩ := Kd.R_reads ho
    subst hv5
    have hd5 := Blk.below HD4.out hb5
    clear e0 ez0 elt
    have e0 := Blk.cell (i := 0) hd5 rfl
    have ez0 := Blk.frozen (i := 0) hd5
    have elt := Blk.lt HD4.out
    have hs4 := HA.out.size
    have HD5 := Lib.hid hd5
    have HO5 := Lib.hid ho
    have HB5 := Lib.hid hb5
    clear hd5 ho hb5 hc5
    go_wp2_with fail
    go_ret2
    refine feed2_end (wr := wr) (ms := ms) (rest := bs) ?_ HT2.out (((Tu.of_below HA.out).trans (Tu.of_below HB5.out)).setCell (.inl (by simp)) _) HS.out.below HS.out.row HS.out.names HS.out.gok hs2 false rfl (Blk.set (i := 0) HD5.out _) (Kd.R_lower (own_tu (S := [g]) HO5.out ((Tu.refl _ _).setCell (.inl (by simp)) _) (by simp; omega)) hs4)
    rw [HS.out.eq, feedS_wait HC.out, List.append_nil]
   | some x =>
    obtain ⟨F', n'⟩ := x
    rw [hcut] at hcase
    obtain ⟨rfl, rfl, hF, ho3⟩ := hcase
    subst hF
    obtain ⟨hn1, hn2, hn3⟩ := cutS_some hcut
    have dn : ((n' : Int) == 0) = false := by simp; omega
    obtain ⟨i5, hi5, hz5⟩ := info5'
    obtain ⟨A2, hrun, hread, hcap⟩ := print_drop_of (P := Try.prog) (Value.int .u8) (0 : Int) 22 5 .i64 Try.underlying22 hi5 hz5 A' c' bs (n' : Int) (by omega) (by omega) HS.out.cap
    rw [Int.toNat_natCast] at hrun hread hcap
    have HB3 := Lib.hid hb3
    have HC := Lib.hid hcut
    have HO3 := Lib.hid ho3
    have HRD := Lib.hid hread
    have HCP := Lib.hid hcap
    clear hb3 hcut ho3 hread hcap hi5 hz5
    go_wp2_with (first
     | (refine (message_any F B' m cc _).mono ?_; rintro e w4 ⟨rfl, hb4⟩; have HB4 := Lib.hid (show Below w3.heap.size w3 w4 from (ba _).trans (hb4.mono (by simp))); clear hb4)
     | ((with_reducible refine gate_builtin (b := .append) (xs := #[.tmp 50, .tmp 53]) rfl ?_); at_builtin; refine Kd.R_append (ghost k35) (w0 := w2) w2.heap.size rfl (.tmp 50) (.tmp 53) 27 35 (.agg #[.int .i64 0, .int .i64 0, .string ⟨#[]⟩, .int .i64 0, .slice none 0 0]) 64 rfl Try.underlying27 info35 rfl (by decide) (by omega) u6 gs (msgOf F, (Value.slice B' m cc).ownBlock) [.int .i64 F.kind, .int .i64 F.tn, .string F.name, .int .i64 F.n, .slice B' m cc] (fun _ => True) (fun k => wr.heap.size ≤ k) rfl rfl ?hp ?hokp (fun _ _ => trivial) ?hrow ?hbel ?hbase ?hl ?_; (case hp => exact k35_mkM _ _ _ (msgOf F) (Kd.R_lower (own_exact (Kd.R_mono (Kd.R_bound (Kd.R_below HO3.out HB4.out)) (fun k hk => hk.2.1))) HS.out.below.size)); (case hokp => exact fun k hk => ⟨trivial, fun e => by obtain ⟨inner, ho⟩ := Kd.R_own HS.out.row; have := own_lt ho k e.symm; omega⟩); (case hrow => exact Kd.R_below (Kd.R_below HS.out.row HB3.out) HB4.out); (case hbel => exact HS.out.below.trans ((HB3.out.trans (HB4.out.mono HB3.out.size)).mono HS.out.below.size)); (case hbase => have h1 := HS.out.below.size; have h2 := HB3.out.size; have h3 := HB4.out.size; omega); (case hl => have h1 := HS.out.count; rw [List.length_append] at h1; have h2 := ghost_len HS.out.names; omega); intro v1 w5 hr5 hb5 hg5 hat5; have HR5 := Lib.hid hr5; have HB5 := Lib.hid hb5; have HSZ5 := Lib.hid hg5.size; clear hr5 hb5 hg5 hat5))
    refine ⟨⟨ms ++ [F], gs ++ [(msgOf F, (Value.slice B' m cc).ownBlock)], A2, c' - n', bs.drop n', by rw [List.length_drop], Lib.hid ?_⟩, by simp [lenV]; omega⟩
    have hst := HS.out
    refine ⟨HB5.out, HR5.out, by rw [List.map_append, List.map_append, hst.names]; rfl, gok_snoc hst.gok (fun k hk => ⟨Kd.R_base HO3.out k hk, Nat.lt_of_lt_of_le (own_lt3 HO3.out k hk) (Nat.le_trans HB4.out.size HSZ5.out)⟩) (Nat.le_trans HB3.out.size (Nat.le_trans HB4.out.size HSZ5.out)) hst.below.size, BytesAt.of (HRD.out w2 (BytesAt.nums hst.bytes)), u8_drop hst.u8 n', HCP.out, by have := hst.len; rw [List.length_drop]; omega, by have := hst.count; rw [show (ms ++ [F]).length = ms.length + 1 by simp, List.length_drop]; omega, ?_⟩
    rw [hst.eq, feedS_step HC.out]
    simp
def Rep2Post (w : World) (r : List Flds × Nat × Int) (e : Ending) (w' : World) : Prop :=
  ∃ lv gs, e = .returned (.tuple #[lv, .int .i64 (r.2.1 : Int), .int .i64 r.2.2]) ∧ Kd.R (ghost k44) 44 w' w.heap.size (fun _ => True) lv gs ∧ gs.map (·.1) = r.1.map repOf ∧ GOk w.heap.size w'.heap.size gs ∧ Below w.heap.size w w'
structure Rep2St (w2 wr : World) (lv : Value) (ms : List Flds) (gs : List (S44 × Option Nat)) (at_ : Nat) (all : List Int) : Prop where
 below : Below w2.heap.size w2 wr
 row : Kd.R (ghost k44) 44 wr w2.heap.size (fun _ => True) lv gs
 names : gs.map (·.1) = ms.map repOf
 gok : GOk w2.heap.size wr.heap.size gs
 le : at_ ≤ all.length
 count : ms.length ≤ at_
 eq : repS repTab all = (ms ++ (repS repTab (all.drop at_)).1, at_ + (repS repTab (all.drop at_)).2.1, (repS repTab (all.drop at_)).2.2)
theorem rep2_end {w w2 wr W' : World} {lv : Value} {ms : List Flds} {at_ : Nat} {code : Int} {all : List Int} {gs : List (S44 × Option Nat)} (h : Rep2St w2 wr lv ms gs at_ all) (h2 : Below w.heap.size w w2) (hB : Below wr.heap.size wr W') (hr : repS repTab (all.drop at_) = ([], 0, code)) :
  Rep2Post w (repS repTab all) (.returned (.tuple #[lv, .int .i64 (at_ : Int), .int .i64 code])) W' := by
 rw [h.eq, hr]
 refine ⟨lv, gs, by simp, Kd.R_lower (Kd.R_below h.row hB) h2.size, by rw [List.append_nil]; exact h.names, gok_mono h.gok h2.size hB.size, h2.trans ((h.below.trans (hB.mono h.below.size)).mono h2.size)⟩
set_option maxHeartbeats 4000000 in
set_option maxRecDepth 100000 in
theorem decode2_ok (w : World) (c : Nat) (ys : List Int) (A : Option Addr)
  (hx : BytesAt w A ys.length ys) (hc : ys.length ≤ c) (hu : u8s ys) (hbig : ys.length ≤ 1000000000) :
  Calls Try.prog 17 #[.slice A ys.length c] w (Rep2Post w (repS repTab ys)) := by
 have HX := Lib.hid hx
 clear hx
 go_enter Try.func17, Try.ntmps17
 go_wp2_with fail
 refine (replies_ok w).mono ?_
 rintro e w2 ⟨tv, rfl, htab, hb2⟩
 have HTB := Lib.hid htab
 have hx2 := BytesAt.below (B := 0) HX.out hb2
 have HX2 := Lib.hid hx2
 have hs2 := hb2.size
 have HB2 := Lib.hid hb2
 have HS := Lib.hid (show Rep2St w2 w2 (.slice none 0 0) [] [] 0 ys from ⟨Below.refl _ _, Kd.R_nil _ _ _ _ _, rfl, gok_nil _ _, by omega, by simp, by simp⟩)
 clear htab hx2 hb2
 go_wp2_with fail
 go_loopw [5, 6] (fun l t wr => ∃ (ms : List Flds) (gs : List (S44 × Option Nat)) (at_ : Nat), at_ ≤ ys.length ∧ t = .int .i64 (at_ : Int) ∧ Hid (Rep2St w2 wr l ms gs at_ ys)) (fun _ t _ => ys.length - (intOf t).toNat)
 case atStart => exact ⟨[], [], 0, by omega, rfl, HS⟩
 case round =>
  clear HS
  obtain ⟨ms, gs, at_, hle, rfl, HS⟩ := hrel
  obtain ⟨i5, hi5, hz5⟩ := info5'
  obtain ⟨A2, hrun, hread, hcap⟩ := print_drop_of (P := Try.prog) (Value.int .u8) (0 : Int) 22 5 .i64 Try.underlying22 hi5 hz5 A c ys (at_ : Int) (by omega) (by omega) hc
  rw [Int.toNat_natCast] at hrun hread hcap
  have HRD := Lib.hid (BytesAt.of (hread w2 (BytesAt.nums HX2.out)))
  have HCP := Lib.hid hcap
  clear hread hcap hi5 hz5
  have hdl : (ys.drop at_).length = ys.length - at_ := List.length_drop
  go_wp2_with fail
  rw [← hdl]
  refine (cut_ok repTab wr w.heap.size w2.heap.size (c - at_) tv A2 (ys.drop at_) (HTB.out.step (fun q _ hq => HS.out.below.block q hq) (Nat.le_refl _) (Nat.le_refl _)) HS.out.below.size repTab_ok (BytesAt.below (B := 0) HRD.out HS.out.below) (u8_drop hu at_) HCP.out (by omega)).mono ?_
  rintro e w3 ⟨F, B', m, cc, size, code, rfl, hb3, hcase⟩
  unfold Flds.cells
  have hb4 := HS.out.below.trans (hb3.mono HS.out.below.size)
  have HB3 := Lib.hid hb3
  have HB4 := Lib.hid hb4
  clear hb3 hb4 hrun hdl
  cases hcut : cutS repTab (ys.drop at_) with
  | error q =>
   rw [hcut] at hcase
   obtain rfl : code = q := hcase
   have dq : (code != 0) = true := by
    rcases cutS_err hcut with h | h | h <;> rw [h] <;> rfl
   have HC := Lib.hid hcut
   clear hcut
   go_wp2_with fail
   refine bodyPost_ret (v := .tuple #[u5, .int .i64 (at_ : Int), .int .i64 code]) (by simp [results, Try.results17, go_sem]) rfl ?_
   exact rep2_end HS.out HB2.out (HB3.out.alloc HB3.out.size _) (repS_err HC.out)
  | ok r =>
   cases r with
   | none =>
    rw [hcut] at hcase
    obtain ⟨rfl, rfl⟩ := hcase
    have HC := Lib.hid hcut
    clear hcut
    go_wp2_with fail
    refine bodyPost_ret (v := .tuple #[u5, .int .i64 (at_ : Int), .int .i64 0]) (by simp [results, Try.results17, go_sem]) rfl ?_
    exact rep2_end HS.out HB2.out (HB3.out.alloc HB3.out.size _) (repS_wait HC.out)
   | some x =>
    obtain ⟨F', n'⟩ := x
    rw [hcut] at hcase
    obtain ⟨rfl, rfl, hF, ho3⟩ := hcase
    subst hF
    obtain ⟨hn1, hn2, hn3⟩ := cutS_some hcut
    rw [List.length_drop] at hn2
    have dn : ((n' : Int) == 0) = false := by simp; omega
    have hst := HS.out
    have hct := hst.count
    have HC := Lib.hid hcut
    have HO3 := Lib.hid ho3
    clear hcut ho3 hst
    go_wp2_with (first
     | (refine (reply_any F B' m cc _).mono ?_; rintro e w4 ⟨rfl, hb4⟩; have HB5 := Lib.hid (show Below w3.heap.size w3 w4 from (ba _).trans (hb4.mono (by simp))); clear hb4)
     | ((with_reducible refine gate_builtin (b := .append) (xs := #[.tmp 30, .tmp 33]) rfl ?_); at_builtin; refine Kd.R_append (ghost k44) (w0 := w2) w2.heap.size rfl (.tmp 30) (.tmp 33) 41 44 (.agg #[.int .i64 0, .int .i64 0, .int .i64 0, .slice none 0 0]) 48 rfl Try.underlying41 info44 rfl (by decide) (by omega) u5 gs (repOf F, (Value.slice B' m cc).ownBlock) [.int .i64 F.kind, .int .i64 F.n, .int .i64 F.m, .slice B' m cc] (fun _ => True) (fun k => wr.heap.size ≤ k) rfl rfl ?hp ?hokp (fun _ _ => trivial) ?hrow ?hbel ?hbase ?hl ?_; (case hp => exact k44_mkM _ _ _ (repOf F) (Kd.R_lower (own_exact (Kd.R_mono (Kd.R_bound (Kd.R_below HO3.out HB5.out)) (fun k hk => hk.2.1))) HS.out.below.size)); (case hokp => exact fun k hk => ⟨trivial, fun e => by obtain ⟨inner, ho⟩ := Kd.R_own HS.out.row; have := own_lt ho k e.symm; omega⟩); (case hrow => exact Kd.R_below (Kd.R_below HS.out.row HB3.out) HB5.out); (case hbel => exact HS.out.below.trans ((HB3.out.trans (HB5.out.mono HB3.out.size)).mono HS.out.below.size)); (case hbase => have h1 := HS.out.below.size; have h2 := HB3.out.size; have h3 := HB5.out.size; omega); (case hl => have h2 := ghost_len HS.out.names; omega); intro v1 w5 hr5 hb5 hg5 hat5; have HR5 := Lib.hid hr5; have HB6 := Lib.hid hb5; have HSZ5 := Lib.hid hg5.size; clear hr5 hb5 hg5 hat5))
    refine ⟨⟨ms ++ [F], gs ++ [(repOf F, (Value.slice B' m cc).ownBlock)], at_ + n', by omega, by go_num, Lib.hid ?_⟩, by simp [intOf]; omega⟩
    have hst := HS.out
    refine ⟨HB6.out, HR5.out, by rw [List.map_append, List.map_append, hst.names]; rfl, gok_snoc hst.gok (fun k hk => ⟨Kd.R_base HO3.out k hk, Nat.lt_of_lt_of_le (own_lt3 HO3.out k hk) (Nat.le_trans HB5.out.size HSZ5.out)⟩) (Nat.le_trans HB3.out.size (Nat.le_trans HB5.out.size HSZ5.out)) hst.below.size, by omega, by rw [show (ms ++ [F]).length = ms.length + 1 by simp]; omega, ?_⟩
    rw [hst.eq, repS_step HC.out, List.drop_drop]
    simp [Nat.add_assoc]
end Go.Proofs.Ytpflenaoplblkaa.PaK
end
section
namespace Go.Proofs.Ytpflenaoplblkaa.PaL
open Go.RowKit YtpflenaoplblkaaW.PrintWords YtpflenaoplblkaaW.PrintLast ProA ProB ProC ProI ProD ProG ProJ ProK ProL ProM ProN ProO ProP ProQ ProR ProU ProZ ProBb PaA
open ProH (msgTab repTab ba)
open ProS PaI PaJ PaK
set_option linter.unusedVariables false
set_option linter.unusedSimpArgs false
structure Sl where
 A : Option Addr
 n : Nat
 c : Nat
def Sl.enc (s : Sl) : Value := .slice s.A s.n s.c
def Sl.blk (s : Sl) : Option Nat := s.enc.ownBlock
def slK : Kd Sl := Kd.scalar Sl.enc (fun _ => rfl)
structure MC where
 f0 : Int
 f1 : Int
 f2 : ByteArray
 f3 : Int
 d : Sl
structure RC where
 f0 : Int
 f1 : Int
 f2 : Int
 d : Sl
def MC.cells (x : MC) : List Value := [.int .i64 x.f0, .int .i64 x.f1, .string x.f2, .int .i64 x.f3, x.d.enc]
def RC.cells (x : RC) : List Value := [.int .i64 x.f0, .int .i64 x.f1, .int .i64 x.f2, x.d.enc]
def flatK {α : Type} (sz : Nat) (f : α → List Value) (h1 : ∀ x, (f x).length = sz) (h2 : ∀ x, ∀ u ∈ f x, u.oneCell' = true) : Kd α where
 sz := sz
 E := []
 K := fun _ x cs => cs = f x
 M := fun _ _ _ x cs => cs = f x
 K_len := fun h => by subst h; exact h1 _
 K_one := fun h => by subst h; exact h2 _
 K_below := fun _ h => h
 K_of_M := fun h => h
 M_mono := fun _ h => h
 M_bound := fun h => h
 M_move := fun _ h => h
 M_lower := fun _ h => h
def mcK : Kd MC := flatK 5 MC.cells (fun _ => rfl) (fun x u hu => by simp [MC.cells, Sl.enc] at hu; rcases hu with rfl | rfl | rfl | rfl | rfl <;> rfl)
def rcK : Kd RC := flatK 4 RC.cells (fun _ => rfl) (fun x u hu => by simp [RC.cells, Sl.enc] at hu; rcases hu with rfl | rfl | rfl | rfl <;> rfl)
def Rd {α : Type} (d : Kd α) (w : World) (own : Nat → Nat) (t : Nat) (s : Sl) (xs : List α) : Prop := d.C w s.A s.n xs ∧ s.n ≤ s.c ∧ ∀ a, s.A = some a → 0 < s.n → own a.block = t
def Ow {α : Type} (d : Kd α) (e : Nat) (w : World) (own : Nat → Nat) (t : Nat) (s : Sl) (xs : List α) : Prop := d.R e w 0 (fun k => own k = t) s.enc xs
theorem enc_inj {s t : Sl} (h : s.enc = t.enc) : s = t := by
 cases s; cases t
 simp only [Sl.enc, Value.slice.injEq] at h
 obtain ⟨rfl, rfl, rfl⟩ := h
 rfl
theorem ow_len {α : Type} {d : Kd α} {e : Nat} {w : World} {own : Nat → Nat} {t : Nat} {s : Sl} {xs : List α} (h : Ow d e w own t s xs) : xs.length = s.n ∧ s.n ≤ s.c ∧ d.C w s.A s.n xs := by
 obtain ⟨A, c, hv, h1, h2⟩ := Kd.R_reads h
 simp only [Sl.enc, Value.slice.injEq] at hv
 obtain ⟨e1, e2, e3⟩ := hv
 rw [← e2] at h1 h2
 rw [e1]
 exact ⟨e2.symm, by omega, h2⟩
theorem ow_blk {α : Type} {d : Kd α} {e : Nat} {w : World} {own : Nat → Nat} {t : Nat} {s : Sl} {xs : List α} (h : Ow d e w own t s xs) (k : Nat) (hk : s.blk = some k) : own k = t ∧ k < w.heap.size := by
 obtain ⟨inner, ho⟩ := Kd.R_own h
 exact ⟨h.1 k hk, own_lt ho k hk⟩
theorem ow_blk_of {α : Type} {d : Kd α} {e : Nat} {w : World} {own : Nat → Nat} {t : Nat} {s : Sl} {xs : List α} (h : Ow d e w own t s xs) (a : Addr) (ha : s.A = some a) : s.blk = some a.block := by
 unfold Sl.blk Sl.enc
 rw [ha]
 rfl
theorem ow_rd {α : Type} {d : Kd α} {e : Nat} {w : World} {own : Nat → Nat} {t : Nat} {s : Sl} {xs : List α} (h : Ow d e w own t s xs) : Rd d w own t s xs :=
  ⟨(ow_len h).2.2, (ow_len h).2.1, fun a ha _ => (ow_blk h a.block (ow_blk_of h a ha)).1⟩
structure Kp (ts : Nat → Prop) (w : World) (own : Nat → Nat) (w' : World) (own' : Nat → Nat) : Prop where
 os : w'.os = w.os
 tape : w'.tape = w.tape
 output : w'.output = w.output
 size : w.heap.size ≤ w'.heap.size
 block : ∀ k, k < w.heap.size → ¬ ts (own k) → own' k = own k ∧ w'.heap[k]? = w.heap[k]?
theorem Kp.refl (ts : Nat → Prop) (w : World) (own : Nat → Nat) : Kp ts w own w own := ⟨rfl, rfl, rfl, Nat.le_refl _, fun _ _ _ => ⟨rfl, rfl⟩⟩
theorem Kp.trans {ts : Nat → Prop} {w w1 w2 : World} {o o1 o2 : Nat → Nat} (h : Kp ts w o w1 o1) (k : Kp ts w1 o1 w2 o2) : Kp ts w o w2 o2 :=
 ⟨k.os.trans h.os, k.tape.trans h.tape, k.output.trans h.output, Nat.le_trans h.size k.size, fun i hi hn => by
  obtain ⟨a, b⟩ := h.block i hi hn
  obtain ⟨c, d⟩ := k.block i (Nat.lt_of_lt_of_le hi h.size) (by rw [a]; exact hn)
  exact ⟨c.trans a, d.trans b⟩⟩
theorem Kp.mono {ts ts' : Nat → Prop} {w w1 : World} {o o1 : Nat → Nat} (h : Kp ts w o w1 o1) (hs : ∀ t, ts t → ts' t) : Kp ts' w o w1 o1 := ⟨h.os, h.tape, h.output, h.size, fun i hi hn => h.block i hi (fun hm => hn (hs _ hm))⟩
def tagged (w : World) (own : Nat → Nat) (t : Nat) : Nat → Nat := fun k => if k < w.heap.size then own k else t
theorem tagged_old {w : World} {own : Nat → Nat} {t k : Nat} (h : k < w.heap.size) : tagged w own t k = own k := if_pos h
theorem tagged_new {w : World} {own : Nat → Nat} {t k : Nat} (h : w.heap.size ≤ k) : tagged w own t k = t := if_neg (by omega)
theorem Kp.below {ts : Nat → Prop} {w w' : World} {own : Nat → Nat} (h : Below w.heap.size w w') (t : Nat) : Kp ts w own w' (tagged w own t) := ⟨h.os, h.tape, h.output, h.size, fun k hk _ => ⟨tagged_old hk, h.block k hk⟩⟩
theorem Kp.set {ts : Nat → Prop} {w w' : World} {own own' : Nat → Nat} (h : Kp ts w own w' own') (p : Addr) (v : Value) (hp : ∀ k, k < w.heap.size → ¬ ts (own k) → k ≠ p.block) : Kp ts w own (w'.setCell p v) own' :=
  ⟨h.os, h.tape, h.output, Nat.le_trans h.size (by simp [World.setCell]), fun k hk hn => ⟨(h.block k hk hn).1, (Below.heap_setCell w' p v k (hp k hk hn)).trans (h.block k hk hn).2⟩⟩
theorem Ow.keep {α : Type} {d : Kd α} {e : Nat} {ts : Nat → Prop} {w w' : World} {own own' : Nat → Nat} {t : Nat} {s : Sl} {xs : List α} (h : Ow d e w own t s xs) (hk : Kp ts w own w' own') (ht : ¬ ts t) : Ow d e w' own' t s xs :=
  Kd.R_mono (Kd.R_move (Kd.R_bound h) (fun k hb => (hk.block k hb.2.2.1 (by rw [hb.1]; exact ht)).2)) (fun k hb => by rw [(hk.block k hb.2.2.1 (by rw [hb.1]; exact ht)).1]; exact hb.1)
theorem C_move {α : Type} {d : Kd α} (hd : ∀ {w w1 : World} {x : α} {cs : List Value}, d.K w x cs → d.K w1 x cs) {w w' : World} {A : Option Addr} {n : Nat} {xs : List α} (h : d.C w A n xs) (hsz : 0 < d.sz) (hm : ∀ a, A = some a → 0 < n → w'.heap[a.block]? = w.heap[a.block]?) : d.C w' A n xs := by
 obtain ⟨h1, h2, h3⟩ := h
 refine ⟨h1, h2, fun hn => ?_⟩
 obtain ⟨ad, e, hc⟩ := h3 hn
 refine ⟨ad, e, fun j p hj => ?_⟩
 obtain ⟨c, hl, hK, hcell⟩ := hc j p hj
 refine ⟨c, hl, hd hK, fun i u hi => ?_⟩
 have hb : ∀ k, (ad.add k).block = ad.block := fun k => by unfold Addr.add; split <;> rfl
 have hh : w'.heap[(ad.add (j * d.sz + i)).block]? = w.heap[(ad.add (j * d.sz + i)).block]? := by rw [hb]; exact hm ad e hn
 exact (World.cell?_of_block (w := w) hh).trans (hcell i u hi)
theorem C_lt {α : Type} {d : Kd α} {w : World} {A : Option Addr} {n : Nat} {xs : List α} (h : d.C w A n xs) (hsz : 0 < d.sz) (a : Addr) (ha : A = some a) (hn : 0 < n) : a.block < w.heap.size := by
 obtain ⟨h1, h2, h3⟩ := h
 obtain ⟨ad, e, hc⟩ := h3 hn
 rw [ha] at e
 injection e with e
 subst e
 have h0 : 0 < xs.length := by omega
 obtain ⟨c, hl, hK, hcell⟩ := hc 0 xs[0] (List.getElem?_eq_getElem h0)
 have h4 : 0 < c.length := by omega
 have := World.block_lt_of_cell? w _ (hcell 0 c[0] (List.getElem?_eq_getElem h4))
 have hb : (a.add (0 * d.sz + 0)).block = a.block := by unfold Addr.add; split <;> rfl
 rwa [hb] at this
theorem Rd.keep {α : Type} {d : Kd α} (hd : ∀ {w w1 : World} {x : α} {cs : List Value}, d.K w x cs → d.K w1 x cs) (hsz : 0 < d.sz) {ts : Nat → Prop} {w w' : World} {own own' : Nat → Nat} {t : Nat} {s : Sl} {xs : List α} (h : Rd d w own t s xs) (hk : Kp ts w own w' own') (ht : ¬ ts t) : Rd d w' own' t s xs := by
 have hb : ∀ a, s.A = some a → 0 < s.n → own' a.block = own a.block ∧ w'.heap[a.block]? = w.heap[a.block]? := fun a ha hn => hk.block a.block (C_lt h.1 hsz a ha hn) (by rw [h.2.2 a ha hn]; exact ht)
 exact ⟨C_move hd h.1 hsz (fun a ha hn => (hb a ha hn).2), h.2.1, fun a ha hn => (hb a ha hn).1.trans (h.2.2 a ha hn)⟩
theorem Blk.keep {ts : Nat → Prop} {w w' : World} {own own' : Nat → Nat} {g : Nat} {cs : Array Value} {t : TypeId} (h : Blk w g cs t) (hk : Kp ts w own w' own') (ht : ¬ ts (own g)) : Blk w' g cs t ∧ own' g = own g := by
 have := hk.block g (Blk.lt h) ht
 exact ⟨this.2.trans h, this.1⟩
abbrev u8K : Kd Int := Kd.int .u8
theorem u8K_K {w w1 : World} {x : Int} {cs : List Value} (h : u8K.K w x cs) : u8K.K w1 x cs := h
theorem mcK_K {w w1 : World} {x : MC} {cs : List Value} (h : mcK.K w x cs) : mcK.K w1 x cs := h
theorem rcK_K {w w1 : World} {x : RC} {cs : List Value} (h : rcK.K w x cs) : rcK.K w1 x cs := h
theorem ow_new {α : Type} {d : Kd α} {e : Nat} {w w' : World} {own : Nat → Nat} {s : Sl} {xs : List α} {ok : Nat → Prop} (t : Nat) (h : d.R e w' w.heap.size ok s.enc xs) : Ow d e w' (tagged w own t) t s xs :=
  Kd.R_lower (Kd.R_mono (Kd.R_bound h) (fun k hk => tagged_new hk.2.1)) (Nat.zero_le _)
end Go.Proofs.Ytpflenaoplblkaa.PaL
end
section
namespace Go.Proofs.Ytpflenaoplblkaa.PaM
open Go.RowKit YtpflenaoplblkaaW.PrintWords YtpflenaoplblkaaW.PrintLast ProA ProB ProC ProI ProD ProG ProJ ProK ProL ProM ProN ProO ProP ProQ ProR ProU ProZ ProBb PaA
open ProH (msgTab repTab ba)
open ProS PaI PaJ PaK PaL
set_option linter.unusedVariables false
set_option linter.unusedSimpArgs false
structure St where
 l : Sl
 f0 : Sl
 f1 : Sl
 t0 : Sl
 t1 : Sl
 a0 : Sl
 a1 : Sl
 b : Sl
 m : Sl
 r : Sl
 k0 : Sl
 k1 : Sl
 k2 : Sl
 e : Sl
def St.cells (s : St) : Array Value := #[s.l.enc, s.f0.enc, s.f1.enc, s.t0.enc, s.t1.enc, s.a0.enc, s.a1.enc, s.b.enc, s.m.enc, s.r.enc, s.k0.enc, s.k1.enc, s.k2.enc, s.e.enc]
structure PG where
 x : Nat
 y : Nat
 ws : List Int
 dead : Bool
structure Gh where
 L : List PG
 F : List (Sl × List Int)
 C : List (Sl × List Int)
 T : List (Sl × List MC)
 U : List (Sl × List MC)
 A : List (Sl × List RC)
 V : List (Sl × List RC)
 B : List (Sl × List Int)
 M : List (Sl × List MC)
 R : List (Sl × List RC)
 K0 : List Int
 K1 : List Int
 K2 : List Int
 E : List (Sl × List Int)
def PO {α : Type} (d : Kd α) (e er tr ti : Nat) (w : World) (own : Nat → Nat) (v : Sl) (F : List (Sl × List α)) : Prop :=
  Ow slK er w own tr v (F.map (·.1)) ∧ ∀ i p, F[i]? = some p → Ow d e w own (32 * i + ti) p.1 p.2
def PR {α : Type} (d : Kd α) (er tr : Nat) (w : World) (own : Nat → Nat) (v : Sl) (C : List (Sl × List α)) : Prop :=
  Ow slK er w own tr v (C.map (·.1)) ∧ ∀ p ∈ C, Rd d w own 0 p.1 p.2
def pairK : Kd (Nat × Nat) := flatK 2 (fun p => [pt p.1, pt p.2]) (fun _ => rfl) (fun x u hu => by simp at hu; rcases hu with rfl | rfl <;> rfl)
structure Dec (w : World) (own : Nat → Nat) (i : Nat) (p : PG) : Prop where
 x : ∃ wv, Blk w p.x #[wv, .bool p.dead] 67 ∧ Own w 0 (fun k => own k = 32 * i + 21) wv p.ws
 y : ∃ wv, Blk w p.y #[wv, .bool p.dead] 106 ∧ Off w (fun k => own k = 32 * i + 22) wv p.ws
 ox : own p.x = 32 * i + 21
 oy : own p.y = 32 * i + 22
 u8 : u8s p.ws
 le : p.ws.length ≤ 1000000
def PL (w : World) (own : Nat → Nat) (v : Sl) (L : List PG) : Prop :=
  Ow pairK 81 w own 20 v (L.map (fun p => (p.x, p.y))) ∧ ∀ i p, L[i]? = some p → Dec w own i p
abbrev i64K : Kd Int := Kd.int .i64
structure WInv (w : World) (g : Nat) (own : Nat → Nat) (s : St) (h : Gh) : Prop where
 blk : Blk w g s.cells 61
 og : own g = 2
 l : PL w own s.l h.L
 f0 : PO u8K 5 22 3 4 w own s.f0 h.F
 f1 : PR u8K 22 5 w own s.f1 h.C
 t0 : PO mcK 35 27 6 7 w own s.t0 h.T
 t1 : PR mcK 27 8 w own s.t1 h.U
 a0 : PO rcK 44 41 9 10 w own s.a0 h.A
 a1 : PR rcK 41 11 w own s.a1 h.V
 b : PR u8K 22 12 w own s.b h.B
 m : PR mcK 27 13 w own s.m h.M
 r : PR rcK 41 14 w own s.r h.R
 k0 : Ow i64K 3 w own 15 s.k0 h.K0
 k1 : Ow i64K 3 w own 16 s.k1 h.K1
 k2 : Ow i64K 3 w own 17 s.k2 h.K2
 e : PO u8K 5 22 18 19 w own s.e h.E
theorem PO.keep {α : Type} {d : Kd α} {e er tr ti : Nat} {w w' : World} {own own' : Nat → Nat} {v : Sl} {F : List (Sl × List α)} {ts : Nat → Prop} (h : PO d e er tr ti w own v F) (hk : Kp ts w own w' own') (h1 : ¬ ts tr) (h2 : ∀ i, ¬ ts (32 * i + ti)) : PO d e er tr ti w' own' v F :=
  ⟨h.1.keep hk h1, fun i p hp => (h.2 i p hp).keep hk (h2 i)⟩
theorem PR.keep {α : Type} {d : Kd α} (hd : ∀ {w w1 : World} {x : α} {cs : List Value}, d.K w x cs → d.K w1 x cs) (hsz : 0 < d.sz) {er tr : Nat} {w w' : World} {own own' : Nat → Nat} {v : Sl} {C : List (Sl × List α)} {ts : Nat → Prop} (h : PR d er tr w own v C) (hk : Kp ts w own w' own') (h1 : ¬ ts tr) (h2 : ¬ ts 0) : PR d er tr w' own' v C :=
  ⟨h.1.keep hk h1, fun p hp => (h.2 p hp).keep hd hsz hk h2⟩
theorem Off.keep {w w' : World} {own own' : Nat → Nat} {t : Nat} {v : Value} {xs : List Int} {ts : Nat → Prop} (h : Off w (fun k => own k = t) v xs) (hk : Kp ts w own w' own') (h1 : ¬ ts t) : Off w' (fun k => own' k = t) v xs := by
 rcases h with h | ⟨b, off, c, cur, rfl, h2, h3, h4, h5⟩
 · exact .inl h
 ·
  obtain ⟨e1, e2⟩ := hk.block b (blk_lt h4) (by rw [h2]; exact h1)
  exact .inr ⟨b, off, c, cur, rfl, e1.trans h2, h3, e2.trans h4, h5⟩
theorem Own.keep {w w' : World} {own own' : Nat → Nat} {t : Nat} {v : Value} {xs : List Int} {ts : Nat → Prop} (h : Own w 0 (fun k => own k = t) v xs) (hk : Kp ts w own w' own') (h1 : ¬ ts t) : Own w' 0 (fun k => own' k = t) v xs :=
  Kd.R_mono (Kd.R_move (Kd.R_bound h) (fun k hb => (hk.block k hb.2.2.1 (by rw [hb.1]; exact h1)).2)) (fun k hb => by rw [(hk.block k hb.2.2.1 (by rw [hb.1]; exact h1)).1]; exact hb.1)
theorem Dec.keep {w w' : World} {own own' : Nat → Nat} {i : Nat} {p : PG} {ts : Nat → Prop} (h : Dec w own i p) (hk : Kp ts w own w' own') (h1 : ¬ ts (32 * i + 21)) (h2 : ¬ ts (32 * i + 22)) : Dec w' own' i p := by
 obtain ⟨wv, hb, ho⟩ := h.x
 obtain ⟨wv', hb', ho'⟩ := h.y
 obtain ⟨b1, b2⟩ := Blk.keep hb hk (by rw [h.ox]; exact h1)
 obtain ⟨c1, c2⟩ := Blk.keep hb' hk (by rw [h.oy]; exact h2)
 exact ⟨⟨wv, b1, Own.keep ho hk h1⟩, ⟨wv', c1, Off.keep ho' hk h2⟩, b2.trans h.ox, c2.trans h.oy, h.u8, h.le⟩
theorem PL.keep {w w' : World} {own own' : Nat → Nat} {v : Sl} {L : List PG} {ts : Nat → Prop} (h : PL w own v L) (hk : Kp ts w own w' own') (h0 : ¬ ts 20) (h1 : ∀ i, ¬ ts (32 * i + 21)) (h2 : ∀ i, ¬ ts (32 * i + 22)) : PL w' own' v L :=
  ⟨h.1.keep hk h0, fun i p hp => (h.2 i p hp).keep hk (h1 i) (h2 i)⟩
def fre (t : Nat) : Prop := t % 32 = 1 ∨ 23 ≤ t % 32
theorem WInv.keep {w w' : World} {g : Nat} {own own' : Nat → Nat} {s : St} {h : Gh} (H : WInv w g own s h) (hk : Kp fre w own w' own') : WInv w' g own' s h := by
 have f : ∀ t, ¬ (t % 32 = 1 ∨ 23 ≤ t % 32) → ¬ fre t := fun t ht => ht
 obtain ⟨b1, b2⟩ := Blk.keep H.blk hk (by rw [H.og]; exact f _ (by decide))
 exact {
  blk := b1
  og := b2.trans H.og
  l := H.l.keep hk (f _ (by decide)) (fun i => f _ (by omega)) (fun i => f _ (by omega))
  f0 := H.f0.keep hk (f _ (by decide)) (fun i => f _ (by omega))
  f1 := H.f1.keep u8K_K (by decide) hk (f _ (by decide)) (f _ (by decide))
  t0 := H.t0.keep hk (f _ (by decide)) (fun i => f _ (by omega))
  t1 := H.t1.keep mcK_K (by decide) hk (f _ (by decide)) (f _ (by decide))
  a0 := H.a0.keep hk (f _ (by decide)) (fun i => f _ (by omega))
  a1 := H.a1.keep rcK_K (by decide) hk (f _ (by decide)) (f _ (by decide))
  b := H.b.keep u8K_K (by decide) hk (f _ (by decide)) (f _ (by decide))
  m := H.m.keep mcK_K (by decide) hk (f _ (by decide)) (f _ (by decide))
  r := H.r.keep rcK_K (by decide) hk (f _ (by decide)) (f _ (by decide))
  k0 := H.k0.keep hk (f _ (by decide))
  k1 := H.k1.keep hk (f _ (by decide))
  k2 := H.k2.keep hk (f _ (by decide))
  e := H.e.keep hk (f _ (by decide)) (fun i => f _ (by omega)) }
end Go.Proofs.Ytpflenaoplblkaa.PaM
end
section
namespace Go.Proofs.Ytpflenaoplblkaa.PaN
open Go.RowKit YtpflenaoplblkaaW.PrintWords YtpflenaoplblkaaW.PrintLast ProA ProB ProC ProI ProD ProG ProJ ProK ProL ProM ProN ProO ProP ProQ ProR ProU ProZ ProBb PaA
open ProH (msgTab repTab ba)
open ProS PaI PaJ PaK PaL
open PaM
set_option linter.unusedVariables false
set_option linter.unusedSimpArgs false
def ret (own : Nat → Nat) (t t' : Nat) : Nat → Nat := fun k => if own k = t then t' else own k
theorem Kp.ret (w : World) (own : Nat → Nat) (t t' : Nat) : Kp (fun q => q = t) w own w (ret own t t') := ⟨rfl, rfl, rfl, Nat.le_refl _, fun k _ hn => ⟨if_neg hn, rfl⟩⟩
theorem Ow.ret {α : Type} {d : Kd α} {e : Nat} {w : World} {own : Nat → Nat} {t : Nat} {s : Sl} {xs : List α} (h : Ow d e w own t s xs) (t' : Nat) : Ow d e w (ret own t t') t' s xs := Kd.R_mono h (fun k hk => if_pos hk)
theorem Ow.alloc {α : Type} {d : Kd α} {e : Nat} {w W : World} {own : Nat → Nat} {t : Nat} {s : Sl} {xs : List α} (h : Ow d e w own t s xs) (hB : Below w.heap.size w W) : d.R e W 0 (fun k => tagged w own t k = t) s.enc xs :=
  Kd.R_below (Kd.R_mono (Kd.R_bound h) (fun k hk => by rw [tagged_old hk.2.2.1]; exact hk.1)) hB
theorem Ow.pushed {α : Type} {d : Kd α} {e : Nat} {w W w1 : World} {own : Nat → Nat} {t : Nat} {s : Sl} {v1 : Value} {xs ys : List α} (h : Ow d e w own t s xs) (hB : Below w.heap.size w W) (hr : d.R e w1 0 (fun k => tagged w own t k = t) v1 ys) (hg : W.grownBy w1 s.enc.ownBlock) :
  ∃ s1, v1 = s1.enc ∧ Ow d e w1 (tagged w own t) t s1 ys ∧ Kp (fun q => q = t) w own w1 (tagged w own t) := by
 obtain ⟨A, c, hv, _, _⟩ := Kd.R_reads hr
 subst hv
 refine ⟨⟨A, ys.length, c⟩, rfl, hr, hg.os.trans hB.os, hg.tape.trans hB.tape, hg.output.trans hB.output, Nat.le_trans hB.size hg.size, fun k hk hn => ⟨tagged_old hk, ?_⟩⟩
 exact (hg.block k (Nat.lt_of_lt_of_le hk hB.size) (fun e => hn (ow_blk h k e.symm).1)).trans (hB.block k hk)
theorem info22 : (Try.prog.info? 22).map (fun i => (i.zero, i.size, i.bytes)) = some (some (.slice none 0 0), 1, 24) := by kernel_rfl
theorem Kp.cellOf {w w1 : World} {own : Nat → Nat} {a : Addr} {v : Value} (h : Below w.heap.size w w1) (hc : w.cell? a = some v) : w1.cell? a = some v :=
  (World.cell?_of_block (h.block a.block (World.block_lt_of_cell? _ _ hc))).trans hc
theorem push_end {α : Type} {d : Kd α} {e : Nat} {W w1 : World} {own own1 : Nat → Nat} {g t : Nat} {cs : Array Value} {s1 : Sl} {ys : List α} (i : Nat) (hb : Blk w1 g cs 61) (hk : Kp (fun q => q = t) W own w1 own1) (ho : Ow d e w1 own1 t s1 ys) (hg : own g = 2) (he : ∀ q, q ∈ e :: d.E → q ≠ 61) :
  Blk (w1.setCell ⟨g, i, none⟩ s1.enc) g (cs.setIfInBounds i s1.enc) 61 ∧ Kp (fun q => q = t ∨ q = 2) W own (w1.setCell ⟨g, i, none⟩ s1.enc) own1 ∧ Ow d e (w1.setCell ⟨g, i, none⟩ s1.enc) own1 t s1 ys :=
 ⟨Blk.set (i := i) hb _, (hk.mono (fun q hq => .inl hq)).set _ _ (fun k _ hn e => hn (.inr (by have e' : k = g := e; rw [e']; exact hg))), Kd.R_set ho hb he i _⟩
theorem PO.snoc {α : Type} {d : Kd α} {e er tr ti : Nat} {w : World} {own : Nat → Nat} {v : Sl} {F : List (Sl × List α)} {l : Sl} {xs : List α} (hr : Ow slK er w own tr v (F.map (·.1) ++ [l])) (h : ∀ i p, F[i]? = some p → Ow d e w own (32 * i + ti) p.1 p.2) (hl : Ow d e w own (32 * F.length + ti) l xs) : PO d e er tr ti w own v (F ++ [(l, xs)]) := by
 refine ⟨by rw [List.map_append]; exact hr, fun i p hp => ?_⟩
 rw [List.getElem?_append] at hp
 split at hp
 · exact h i p hp
 ·
  rename_i hge
  have : i = F.length := by
   have := (List.getElem?_eq_some_iff.1 hp).1
   simp at this
   omega
  subst this
  simp at hp
  subst hp
  exact hl
theorem PR.snoc {α : Type} {d : Kd α} {er tr : Nat} {w : World} {own : Nat → Nat} {v : Sl} {C : List (Sl × List α)} {l : Sl} {xs : List α} (hr : Ow slK er w own tr v (C.map (·.1) ++ [l])) (h : ∀ p ∈ C, Rd d w own 0 p.1 p.2) (hl : Rd d w own 0 l xs) : PR d er tr w own v (C ++ [(l, xs)]) := by
 refine ⟨by rw [List.map_append]; exact hr, fun p hp => ?_⟩
 rcases List.mem_append.1 hp with hp | hp
 · exact h p hp
 ·
  simp at hp
  subst hp
  exact hl
set_option maxHeartbeats 1000000 in
set_option maxRecDepth 100000 in
theorem take_ok (w : World) (g t : Nat) (own : Nat → Nat) (s : St) (h : Gh) (l : Sl) (xs : List Int) (H : WInv w g own s h) (hl : Ow u8K 5 w own t l xs) (ht : t % 32 = 1 ∨ 23 ≤ t % 32) (hn : h.F.length ≤ 5000000000000) (hc : h.C.length = h.F.length) (hx : xs.length ≤ 5000000000000) :
  Calls Try.prog 56 #[pt g, l.enc] w fun e w' => e = .returned (.tuple #[]) ∧ ∃ own' v0 v1 c, WInv w' g own' { s with f0 := v0, f1 := v1 } { h with F := h.F ++ [(l, xs)], C := h.C ++ [(c, xs)] } ∧ Kp (fun q => q = t ∨ q = 2 ∨ q = 3 ∨ q = 5) w own w' own' := by
 have hkr := Kp.ret w own t (32 * h.F.length + 4)
 have hwr := H.keep (hkr.mono (fun q hq => by subst hq; exact ht))
 have HL := Lib.hid (Ow.ret hl (32 * h.F.length + 4))
 have HKR := Lib.hid hkr
 generalize ret own t (32 * h.F.length + 4) = o0 at hwr HL HKR
 clear hkr H hl
 have HW := Lib.hid hwr
 clear hwr
 have hnl : l.n = xs.length := (ow_len HL.out).1.symm
 have k0 : w.cell? ⟨g, 1, none⟩ = some s.f0.enc := Blk.cell (i := 1) HW.out.blk rfl
 go_enter Try.func56, Try.ntmps56
 go_wp2_with fail
 have HB1 := Lib.hid HW.out.blk
 have HG01 := Lib.hid HW.out.og
 refine start_ (n := 13) (S := fun w' => w'.cell? ⟨g, 1, none⟩ = some s.f0.enc) (ds := [8, 12]) #[false, false, false, false, false, false, false, false, false, false, false, false, false] (by kernel_rfl) rfl rfl k0 (fun hHeld => ?_)
 refine pu_ (i := 0) (N := some 4) (v := ?_) (a' := ?_) rfl rfl (by kernel_rfl) (fun _ _ _ h => h) (by rfl) ?_ ?_ ?_
 rotate_left
 · (intro w'; go_simp; with_reducible rfl)
 rotate_left
 · (simp only [put_s, List.set, i64_w, i32_w]; rfl)
 refine pu_ (i := 1) (N := some 5) (v := ?_) (a' := ?_) rfl rfl (by kernel_rfl) (fun _ _ _ h => h) (by rfl) ?_ ?_ ?_
 rotate_left
 · (intro w'; go_simp; with_reducible rfl)
 rotate_left
 · (simp only [put_s, List.set, i64_w, i32_w]; rfl)
 refine pu_ (i := 2) (N := some 6) (v := ?_) (a' := ?_) rfl rfl (by kernel_rfl) (fun _ _ _ h => h) (by rfl) ?_ ?_ ?_
 rotate_left
 · (intro w'; go_simp; with_reducible rfl)
 rotate_left
 · (simp only [put_s, List.set, i64_w, i32_w]; rfl)
 refine pu_ (i := 3) (N := some 7) (v := ?_) (a' := ?_) rfl rfl (by kernel_rfl) (fun _ _ _ h => h) (by rfl) ?_ ?_ ?_
 rotate_left
 · (intro w'; go_simp; with_reducible rfl)
 rotate_left
 · (simp only [put_s, List.set, i64_w, i32_w]; rfl)
 refine pu_ (i := 4) (N := some 8) (v := ?_) (a' := ?_) rfl rfl (by kernel_rfl) (fun _ _ _ h => h) (by rfl) ?_ ?_ ?_
 rotate_left
 · (intro w'; go_simp; with_reducible rfl)
 rotate_left
 · (simp only [put_s, List.set, i64_w, i32_w]; rfl)
 refine tk_ (i := 5) (N := some 9) (v := ?_) (a' := ?_) rfl rfl (by kernel_rfl) (fun _ _ _ h => h) (by rfl) ?_ hHeld ?_ ?_
 rotate_left
 · (intro w' s0; go_simp; with_reducible rfl)
 rotate_left
 · (simp only [put_s, List.set, i64_w, i32_w]; rfl)
 refine pu_ (i := 6) (N := some 10) (v := ?_) (a' := ?_) rfl rfl (by kernel_rfl) (fun _ _ _ h => h) (by rfl) ?_ ?_ ?_
 rotate_left
 · (intro w'; go_simp; with_reducible rfl)
 rotate_left
 · (simp only [put_s, List.set, i64_w, i32_w]; rfl)
 refine pu_ (i := 9) (N := some 13) (v := ?_) (a' := ?_) rfl rfl (by kernel_rfl) (fun _ _ _ h => h) (by rfl) ?_ ?_ ?_
 rotate_left
 · (intro w'; go_simp; with_reducible rfl)
 rotate_left
 · (simp only [put_s, List.set, i64_w, i32_w]; rfl)
 refine pu_ (i := 10) (N := some 14) (v := ?_) (a' := ?_) rfl rfl (by kernel_rfl) (fun _ _ _ h => h) (by rfl) ?_ ?_ ?_
 rotate_left
 · (intro w'; go_simp; with_reducible rfl)
 rotate_left
 · (simp only [put_s, List.set, i64_w, i32_w]; rfl)
 refine on_ (i := 7) (N := some 11) rfl rfl (by kernel_rfl) (by decide) (fun K hK => ?_)
 refine value_ (v := .slice (some ⟨(w.drew).heap.size, 0, none⟩) 1 1) (w1 := (w.drew).alloc (.cells #[l.enc] 22)) (by rfl) rfl (by simp only [Sl.enc]; go_simp) ?_
 refine hK.out _ _ ((World.cell?_alloc_lt _ _ _ (World.block_lt_of_cell? _ _ hHeld)).trans hHeld) (fun hHeld => ?_)
 clear hK K
 refine norm_ (a' := ?_) ?_ ?_
 rotate_left
 ·
  show Act.put _ (some 11) _ = _
  simp only [put_s, List.set, i64_w, i32_w]
  rfl
 refine la_ (i := 8) (N := some 12) rfl rfl (by kernel_rfl) (by decide) (fun K hK => ?_)
 refine Kd.R_append_step slK (w0 := w) 0 (by rfl) (.tmp 9) (.tmp 11) 53 22 (.slice none 0 0) 24 rfl Try.underlying53 info22 rfl (by decide) (by decide) s.f0.enc (h.F.map (·.1)) l [l.enc] (fun k => tagged w o0 3 k = 3) (fun _ => False) rfl rfl rfl (fun _ hk => hk.elim) (fun q hq => tagged_new (by have hz : (w).heap.size ≤ q := hq; exact hz)) (Ow.alloc HW.out.f0.1 (Below.drew (Below.refl _ _))) (Below.drew (Below.refl 0 _)) (Nat.zero_le _) (by simp; omega) ?_
 intro v1 w1 ho hb hg hat
 obtain ⟨s1, rfl, ho', hk'⟩ := Ow.pushed HW.out.f0.1 (Below.drew (Below.refl _ _)) ho hg
 clear ho hb hg hat
 have hbb := Blk.keep (HB1.out) hk' (by rw [HW.out.og]; decide)
 have HBK1 := Lib.hid hbb.1
 have HG1 := Lib.hid (hbb.2.trans HW.out.og)
 have HO1 := Lib.hid ho'
 have HK1 := Lib.hid hk'
 have c1 := Blk.cell (i := 1) hbb.1 rfl
 have z1 := Blk.frozen (i := 1) hbb.1
 clear ho' hk' hbb HB1
 refine hK.out _ _ ?_
 clear hK K
 refine norm_ (a' := ?_) ?_ ?_
 rotate_left
 ·
  show Act.put _ (some 12) _ = _
  simp only [put_s, List.set, i64_w, i32_w]
  rfl
 refine pu_ (i := 11) (N := some 15) (v := ?_) (a' := ?_) rfl rfl (by kernel_rfl) (fun _ _ _ h => h) (by rfl) ?_ ?_ ?_
 rotate_left
 · (intro w'; go_simp; with_reducible rfl)
 rotate_left
 · (simp only [put_s, List.set, i64_w, i32_w]; rfl)
 refine la_ (i := 12) (N := none) rfl rfl (by kernel_rfl) (by decide) (fun K hK => ?_)
 refine skip_ (w1 := w1.setCell ⟨g, 1, none⟩ s1.enc) (by rfl) rfl (by simp only [Sl.enc]; go_simp) ?_
 refine hK.out _ _ ?_
 clear hK K
 refine done_ (by kernel_rfl) ?_
 clear c1 z1
 obtain ⟨hb', hk', ho'⟩ := push_end 1 HBK1.out HK1.out HO1.out HG01.out (by decide)
 have HBS1 := Lib.hid hb'
 have HKS1 := Lib.hid hk'
 have HOS1 := Lib.hid ho'
 have HGS1 := Lib.hid HG1.out
 clear hb' hk' ho' HBK1 HK1 HO1 HG1 HG01
 generalize w1.setCell ⟨g, 1, none⟩ s1.enc = W1 at *
 have HF1 := Lib.hid (Ow.keep HW.out.f1.1 HKS1.out (by decide))
 have HX1 := Lib.hid ((Rd.keep u8K_K (by decide) (ow_rd HL.out) HKS1.out (by omega)).1)
 have k1 : W1.cell? ⟨g, 2, none⟩ = some s.f1.enc := Blk.cell (i := 2) HBS1.out rfl
 go_wp2_with fail
 have HB02 := Lib.hid HBS1.out
 have HG02 := Lib.hid HGS1.out
 have HX2 := Lib.hid HX1.out
 refine start_ (n := 15) (S := fun w' => w'.cell? ⟨g, 2, none⟩ = some s.f1.enc) (ds := [10, 14]) #[false, false, false, false, false, false, false, false, false, false, false, false, false, false, false] (by kernel_rfl) rfl rfl k1 (fun hHeld => ?_)
 refine pu_ (i := 0) (N := some 16) (v := ?_) (a' := ?_) rfl rfl (by kernel_rfl) (fun _ _ _ h => h) (by rfl) ?_ ?_ ?_
 rotate_left
 · (intro w'; go_simp; with_reducible rfl)
 rotate_left
 · (simp only [put_s, List.set, i64_w, i32_w]; rfl)
 refine pu_ (i := 1) (N := some 17) (v := ?_) (a' := ?_) rfl rfl (by kernel_rfl) (fun _ _ _ h => h) (by rfl) ?_ ?_ ?_
 rotate_left
 · (intro w'; go_simp; with_reducible rfl)
 rotate_left
 · (simp only [put_s, List.set, i64_w, i32_w]; rfl)
 refine pu_ (i := 2) (N := some 18) (v := ?_) (a' := ?_) rfl rfl (by kernel_rfl) (fun _ _ _ h => h) (by rfl) ?_ ?_ ?_
 rotate_left
 · (intro w'; go_simp; with_reducible rfl)
 rotate_left
 · (simp only [put_s, List.set, i64_w, i32_w]; rfl)
 refine pu_ (i := 3) (N := some 19) (v := ?_) (a' := ?_) rfl rfl (by kernel_rfl) (fun _ _ _ h => h) (by rfl) ?_ ?_ ?_
 rotate_left
 · (intro w'; go_simp; with_reducible rfl)
 rotate_left
 · (simp only [put_s, List.set, i64_w, i32_w]; rfl)
 refine pu_ (i := 4) (N := some 20) (v := ?_) (a' := ?_) rfl rfl (by kernel_rfl) (fun _ _ _ h => h) (by rfl) ?_ ?_ ?_
 rotate_left
 · (intro w'; go_simp; with_reducible rfl)
 rotate_left
 · (simp only [put_s, List.set, i64_w, i32_w]; rfl)
 refine tk_ (i := 5) (N := some 21) (v := ?_) (a' := ?_) rfl rfl (by kernel_rfl) (fun _ _ _ h => h) (by rfl) ?_ hHeld ?_ ?_
 rotate_left
 · (intro w' s0; go_simp; with_reducible rfl)
 rotate_left
 · (simp only [put_s, List.set, i64_w, i32_w]; rfl)
 refine pu_ (i := 7) (N := some 23) (v := ?_) (a' := ?_) rfl rfl (by kernel_rfl) (fun _ _ _ h => h) (by rfl) ?_ ?_ ?_
 rotate_left
 · (intro w'; go_simp; with_reducible rfl)
 rotate_left
 · (simp only [put_s, List.set, i64_w, i32_w]; rfl)
 refine pu_ (i := 11) (N := some 27) (v := ?_) (a' := ?_) rfl rfl (by kernel_rfl) (fun _ _ _ h => h) (by rfl) ?_ ?_ ?_
 rotate_left
 · (intro w'; go_simp; with_reducible rfl)
 rotate_left
 · (simp only [put_s, List.set, i64_w, i32_w]; rfl)
 refine pu_ (i := 12) (N := some 28) (v := ?_) (a' := ?_) rfl rfl (by kernel_rfl) (fun _ _ _ h => h) (by rfl) ?_ ?_ ?_
 rotate_left
 · (intro w'; go_simp; with_reducible rfl)
 rotate_left
 · (simp only [put_s, List.set, i64_w, i32_w]; rfl)
 refine on_ (i := 6) (N := some 22) rfl rfl (by kernel_rfl) (by decide) (fun K hK => ?_)
 refine Kd.R_lit_step u8K (w0 := W1) (W1).heap.size 5 (by rfl) rfl (xs := []) (inner := []) (ok := fun _ => True) (okp := fun _ => True) (by go_simp) ⟨rfl, fun j p hj => by simp at hj⟩ (fun _ _ => trivial) trivial (Below.drew (Below.refl _ _)) (Nat.le_refl _) (by decide) ?_
 intro v2a w2a hra hba hga hata
 have hHeld := (Kp.cellOf (own := (tagged w o0 3)) hba hHeld)
 refine hK.out _ _ hHeld (fun hHeld => ?_)
 clear hK K
 refine norm_ (a' := ?_) ?_ ?_
 rotate_left
 ·
  show Act.put _ (some 22) _ = _
  simp only [put_s, List.set, i64_w, i32_w]
  rfl
 refine on_ (i := 8) (N := some 24) rfl rfl (by kernel_rfl) (by decide) (fun K hK => ?_)
 refine Kd.R_append_rows_step u8K (Rr := u8K.K _) (w0 := W1) (W1).heap.size (by rfl) (.tmp 22) (.tmp 23) 22 5 (.int .u8 0) 1 rfl Try.underlying22 info5 rfl (by decide) (by decide) v2a [] xs l.A l.n l.c (fun _ => True) (fun _ => False) rfl rfl hra (Kd.C_below HX2.out hba) (fun _ _ hh => hh) (fun _ hk => hk.elim) (fun _ _ => trivial) hba hba.size (by simp; omega) ?_
 intro v2b w2b hrb hbb hgb hatb
 obtain ⟨A2b, c2b, hv2b, _, _⟩ := Kd.R_reads hrb
 rw [List.nil_append] at hrb hv2b
 clear hra hba hga hata hgb hatb
 obtain ⟨y2, rfl⟩ : ∃ y : Sl, v2b = y.enc := ⟨⟨A2b, _, c2b⟩, hv2b⟩
 clear hv2b
 have HY2 := Lib.hid (ow_new (own := (tagged w o0 3)) 0 hrb)
 have HKB2 := Lib.hid (Kp.below (ts := fun _ => False) (own := (tagged w o0 3)) hbb 0)
 clear hrb
 have hHeld := (Kp.cellOf (own := (tagged w o0 3)) hbb (show (W1).cell? _ = _ from k1))
 clear hbb
 refine hK.out _ _ hHeld (fun hHeld => ?_)
 clear hK K
 refine norm_ (a' := ?_) ?_ ?_
 rotate_left
 ·
  show Act.put _ (some 24) _ = _
  simp only [put_s, List.set, i64_w, i32_w]
  rfl
 refine on_ (i := 9) (N := some 25) rfl rfl (by kernel_rfl) (by decide) (fun K hK => ?_)
 refine value_ (v := .slice (some ⟨(w2b).heap.size, 0, none⟩) 1 1) (w1 := (w2b).alloc (.cells #[y2.enc] 22)) (by rfl) rfl (by simp only [Sl.enc]; go_simp) ?_
 refine hK.out _ _ ((World.cell?_alloc_lt _ _ _ (World.block_lt_of_cell? _ _ hHeld)).trans hHeld) (fun hHeld => ?_)
 clear hK K
 refine norm_ (a' := ?_) ?_ ?_
 rotate_left
 ·
  show Act.put _ (some 25) _ = _
  simp only [put_s, List.set, i64_w, i32_w]
  rfl
 refine la_ (i := 10) (N := some 26) rfl rfl (by kernel_rfl) (by decide) (fun K hK => ?_)
 have hbx := Blk.keep HB02.out HKB2.out (by intro hq; exact hq)
 have HB2 := Lib.hid hbx.1
 have HGB2 := Lib.hid (hbx.2.trans HG02.out)
 have HRB2 := Lib.hid (Ow.keep HF1.out HKB2.out (by intro hq; exact hq))
 clear hbx
 refine Kd.R_append_step slK (w0 := w2b) 0 (by rfl) (.tmp 21) (.tmp 25) 53 22 (.slice none 0 0) 24 rfl Try.underlying53 info22 rfl (by decide) (by decide) s.f1.enc (h.C.map (·.1)) y2 [y2.enc] (fun k => tagged w2b (tagged W1 (tagged w o0 3) 0) 5 k = 5) (fun _ => False) rfl rfl rfl (fun _ hk => hk.elim) (fun q hq => tagged_new (by have hz : (w2b).heap.size ≤ q := hq; exact hz)) (Ow.alloc HRB2.out (Below.refl _ _)) (Below.refl 0 _) (Nat.zero_le _) (by simp; omega) ?_
 intro v2 w2 ho hb hg hat
 obtain ⟨s2, rfl, ho', hk'⟩ := Ow.pushed HRB2.out (Below.refl _ _) ho hg
 clear ho hb hg hat
 have hbb := Blk.keep (HB2.out) hk' (by rw [HGB2.out]; decide)
 have HBK2 := Lib.hid hbb.1
 have HG2 := Lib.hid (hbb.2.trans HGB2.out)
 have HO2 := Lib.hid ho'
 have HK2 := Lib.hid hk'
 have c2 := Blk.cell (i := 2) hbb.1 rfl
 have z2 := Blk.frozen (i := 2) hbb.1
 clear ho' hk' hbb HB2
 refine hK.out _ _ ?_
 clear hK K
 refine norm_ (a' := ?_) ?_ ?_
 rotate_left
 ·
  show Act.put _ (some 26) _ = _
  simp only [put_s, List.set, i64_w, i32_w]
  rfl
 refine pu_ (i := 13) (N := some 29) (v := ?_) (a' := ?_) rfl rfl (by kernel_rfl) (fun _ _ _ h => h) (by rfl) ?_ ?_ ?_
 rotate_left
 · (intro w'; go_simp; with_reducible rfl)
 rotate_left
 · (simp only [put_s, List.set, i64_w, i32_w]; rfl)
 refine la_ (i := 14) (N := none) rfl rfl (by kernel_rfl) (by decide) (fun K hK => ?_)
 refine skip_ (w1 := w2.setCell ⟨g, 2, none⟩ s2.enc) (by rfl) rfl (by simp only [Sl.enc]; go_simp) ?_
 refine hK.out _ _ ?_
 clear hK K
 refine done_ (by kernel_rfl) ?_
 clear c2 z2
 obtain ⟨hb', hk', ho'⟩ := push_end 2 HBK2.out HK2.out HO2.out HGB2.out (by decide)
 have HBS2 := Lib.hid hb'
 have HKS2 := Lib.hid hk'
 have HOS2 := Lib.hid ho'
 have HGS2 := Lib.hid HG2.out
 clear hb' hk' ho' HBK2 HK2 HO2 HG2 HGB2 HRB2 HX2 HB02 HG02
 generalize w2.setCell ⟨g, 2, none⟩ s2.enc = W2 at *
 go_wp2_with fail
 try go_end0
 have hk12 : Kp (fun q => q = 2 ∨ q = 3 ∨ q = 5) w o0 W2 (tagged w2b (tagged W1 (tagged w o0 3) 0) 5) := ((HKS1.out.mono (fun q hq => by omega)).trans (HKB2.out.mono (fun q hq => hq.elim))).trans (HKS2.out.mono (fun q hq => by omega))
 have hW := HW.out
 have hl2 := Ow.keep HL.out hk12 (by (intro hq; first | omega | (dsimp only at hq; omega) | (dsimp only at hq; done)))
 have hb : Blk W2 g ({ s with f0 := s1, f1 := s2 } : St).cells 61 := HBS2.out
 have hf : PO u8K 5 22 3 4 W2 (tagged w2b (tagged W1 (tagged w o0 3) 0) 5) s1 (h.F ++ [(l, xs)]) := PO.snoc (Ow.keep (Ow.keep HOS1.out HKB2.out (by (intro hq; first | omega | (dsimp only at hq; omega) | (dsimp only at hq; done)))) HKS2.out (by (intro hq; first | omega | (dsimp only at hq; omega) | (dsimp only at hq; done)))) (fun i p hp => Ow.keep (hW.f0.2 i p hp) hk12 (by (intro hq; first | omega | (dsimp only at hq; omega) | (dsimp only at hq; done)))) hl2
 have hcc : PR u8K 22 5 W2 (tagged w2b (tagged W1 (tagged w o0 3) 0) 5) s2 (h.C ++ [(y2, xs)]) := PR.snoc HOS2.out (fun p hp => Rd.keep u8K_K (by decide) (hW.f1.2 p hp) hk12 (by (intro hq; first | omega | (dsimp only at hq; omega) | (dsimp only at hq; done)))) (Rd.keep u8K_K (by decide) (ow_rd HY2.out) HKS2.out (by (intro hq; first | omega | (dsimp only at hq; omega) | (dsimp only at hq; done))))
 refine ⟨rfl, _, s1, s2, y2, ?_, (HKR.out.mono (fun q hq => by omega)).trans (hk12.mono (fun q hq => by omega))⟩
 constructor <;> (first | assumption | (have q := (Blk.keep (WInv.blk hW) hk12 (by rw [WInv.og hW]; (intro hq; first | omega | (dsimp only at hq; omega) | (dsimp only at hq; done)))).1; exact q) | (have q := (Blk.keep (WInv.blk hW) hk12 (by rw [WInv.og hW]; (intro hq; first | omega | (dsimp only at hq; omega) | (dsimp only at hq; done)))).2.trans (WInv.og hW); exact q) | (have q := PL.keep (WInv.l hW) hk12 (by (intro hq; first | omega | (dsimp only at hq; omega) | (dsimp only at hq; done))) (fun i => by (intro hq; first | omega | (dsimp only at hq; omega) | (dsimp only at hq; done))) (fun i => by (intro hq; first | omega | (dsimp only at hq; omega) | (dsimp only at hq; done))); exact q) | (have q := PO.keep (WInv.f0 hW) hk12 (by (intro hq; first | omega | (dsimp only at hq; omega) | (dsimp only at hq; done))) (fun i => by (intro hq; first | omega | (dsimp only at hq; omega) | (dsimp only at hq; done))); exact q) | (have q := PR.keep u8K_K (by decide) (WInv.f1 hW) hk12 (by (intro hq; first | omega | (dsimp only at hq; omega) | (dsimp only at hq; done))) (by (intro hq; first | omega | (dsimp only at hq; omega) | (dsimp only at hq; done))); exact q) | (have q := PO.keep (WInv.t0 hW) hk12 (by (intro hq; first | omega | (dsimp only at hq; omega) | (dsimp only at hq; done))) (fun i => by (intro hq; first | omega | (dsimp only at hq; omega) | (dsimp only at hq; done))); exact q) | (have q := PR.keep mcK_K (by decide) (WInv.t1 hW) hk12 (by (intro hq; first | omega | (dsimp only at hq; omega) | (dsimp only at hq; done))) (by (intro hq; first | omega | (dsimp only at hq; omega) | (dsimp only at hq; done))); exact q) | (have q := PO.keep (WInv.a0 hW) hk12 (by (intro hq; first | omega | (dsimp only at hq; omega) | (dsimp only at hq; done))) (fun i => by (intro hq; first | omega | (dsimp only at hq; omega) | (dsimp only at hq; done))); exact q) | (have q := PR.keep rcK_K (by decide) (WInv.a1 hW) hk12 (by (intro hq; first | omega | (dsimp only at hq; omega) | (dsimp only at hq; done))) (by (intro hq; first | omega | (dsimp only at hq; omega) | (dsimp only at hq; done))); exact q) | (have q := PR.keep u8K_K (by decide) (WInv.b hW) hk12 (by (intro hq; first | omega | (dsimp only at hq; omega) | (dsimp only at hq; done))) (by (intro hq; first | omega | (dsimp only at hq; omega) | (dsimp only at hq; done))); exact q) | (have q := PR.keep mcK_K (by decide) (WInv.m hW) hk12 (by (intro hq; first | omega | (dsimp only at hq; omega) | (dsimp only at hq; done))) (by (intro hq; first | omega | (dsimp only at hq; omega) | (dsimp only at hq; done))); exact q) | (have q := PR.keep rcK_K (by decide) (WInv.r hW) hk12 (by (intro hq; first | omega | (dsimp only at hq; omega) | (dsimp only at hq; done))) (by (intro hq; first | omega | (dsimp only at hq; omega) | (dsimp only at hq; done))); exact q) | (have q := Ow.keep (WInv.k0 hW) hk12 (by (intro hq; first | omega | (dsimp only at hq; omega) | (dsimp only at hq; done))); exact q) | (have q := Ow.keep (WInv.k1 hW) hk12 (by (intro hq; first | omega | (dsimp only at hq; omega) | (dsimp only at hq; done))); exact q) | (have q := Ow.keep (WInv.k2 hW) hk12 (by (intro hq; first | omega | (dsimp only at hq; omega) | (dsimp only at hq; done))); exact q) | (have q := PO.keep (WInv.e hW) hk12 (by (intro hq; first | omega | (dsimp only at hq; omega) | (dsimp only at hq; done))) (fun i => by (intro hq; first | omega | (dsimp only at hq; omega) | (dsimp only at hq; done))); exact q))
end Go.Proofs.Ytpflenaoplblkaa.PaN
end
