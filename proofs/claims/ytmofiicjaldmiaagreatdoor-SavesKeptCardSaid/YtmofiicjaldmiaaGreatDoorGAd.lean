import Derived.Test.YtmofiicjaldmiaaGreatDoorGAc
section
namespace Go.Proofs.YtmofiicjaldmiaaGreatDoor.SvV
open Go.RowKit Go.Shelf YtmofiicjaldmiaaGreatDoorW.PrintWords YtmofiicjaldmiaaGreatDoorW.PrintLast SvA SvB SvC SvD SvE SvF SvG SvH SvI SvJ SvK SvL SvM SvN SvO SvP SvQ SvR SvS SvT SvU
set_option linter.unusedVariables false
set_option linter.unusedSimpArgs false
abbrev k3 (t : Nat) : Nat → Prop := fun q => q = t ∨ q = t + 1 ∨ q = t + 2
structure LaSt (w : World) (own : Nat → Nat) (t g gs : Nat) (ga : Nat → Nat) (S : SV) (x : EP) (eb lb : Nat) (lc : Array Value) (lt : TypeId) (A : Option Addr) (n c td : Nat) (data : List Int) (b : BS) (W : World) (o : Nat → Nat) : Prop where
 sv : SvMem W o t g gs ga (SV.setB S b)
 kp : Kp (k3 t) w own W o
 ok : BOk b
 bn : b.n = S.b.n
 be : Blk W eb x.cells.toArray 107
 oe : o eb = 0
 bl : Blk W lb lc lt
 ol : o lb = 0
 xs : Rd i64K W o 0 x.sl x.en.secs
 da : Rd u8K W o td ⟨A, n, c⟩ data
theorem LaSt.below {w : World} {own : Nat → Nat} {t g gs : Nat} {ga : Nat → Nat} {S : SV} {x : EP} {eb lb : Nat} {lc : Array Value} {lt : TypeId} {A : Option Addr} {n c td : Nat} {data : List Int} {b : BS} {W W' : World} {o : Nat → Nat} (H : LaSt w own t g gs ga S x eb lb lc lt A n c td data b W o) (hb : Below W.heap.size W W') : LaSt w own t g gs ga S x eb lb lc lt A n c td data b W' (tagged W o 0) := by
 have hk := Kp.below (ts := fun _ => False) (own := o) hb 0
 exact ⟨H.sv.keep hk (fun q => q) (fun _ _ _ q => q), H.kp.trans (hk.mono (fun _ h => h.elim)), H.ok, H.bn, H.be.below hb, (tagged_old (Blk.lt H.be)).trans H.oe, H.bl.below hb, (tagged_old (Blk.lt H.bl)).trans H.ol, H.xs.keep i64K_K (by decide) hk (fun q => q), H.da.keep u8K_K (by decide) hk (fun q => q)⟩
theorem LaSt.turn {w : World} {own : Nat → Nat} {t g gs : Nat} {ga : Nat → Nat} {S : SV} {x : EP} {eb lb : Nat} {lc : Array Value} {lt : TypeId} {A : Option Addr} {n c td : Nat} {data : List Int} {b b' : BS} {W W' : World} {o o' : Nat → Nat} (H : LaSt w own t g gs ga S x eb lb lc lt A n c td data b W o) (ht : t ≠ 0) (htd : ¬ k3 t td) (hst : StA W' o' t gs b') (hk : Kp (k3 t) W o W' o') (hok : BOk b') (hn : b'.n = b.n) : LaSt w own t g gs ga S x eb lb lc lt A n c td data b' W' o' := by
 have h0 : ¬ k3 t 0 := by rintro (h | h | h) <;> omega
 obtain ⟨e1, e2⟩ := H.be.keep hk (by rw [H.oe]; exact h0)
 obtain ⟨e3, e4⟩ := H.bl.keep hk (by rw [H.ol]; exact h0)
 exact ⟨SvMem.store H.sv ht hst hk, H.kp.trans hk, hok, hn.trans H.bn, e1, e2.trans H.oe, e3, e4.trans H.ol, H.xs.keep i64K_K (by decide) hk h0, H.da.keep u8K_K (by decide) hk htd⟩
theorem LaSt.start {w : World} {own : Nat → Nat} {t g gs : Nat} {ga : Nat → Nat} {S : SV} (H : SvMem w own t g gs ga S) {x : EP} {A : Option Addr} {n c td : Nat} {data : List Int} (hS : BOk S.b) (hx : Rd i64K w own 0 x.sl x.en.secs) (hd : Rd u8K w own td ⟨A, n, c⟩ data) : LaSt w own t g gs ga S x w.heap.size w.heap.size x.cells.toArray 107 A n c td data S.b (w.alloc (.cells x.cells.toArray 107)) (tagged w own 0) := by
 have hb := ba (w := w) (.cells x.cells.toArray 107)
 have hk := Kp.below (ts := fun _ => False) (own := own) hb 0
 exact ⟨H.keep hk (fun q => q) (fun _ _ _ q => q), hk.mono (fun _ h => h.elim), hS, rfl, blkNew rfl, tagged_new (Nat.le_refl _), blkNew rfl, tagged_new (Nat.le_refl _), hx.keep i64K_K (by decide) hk (fun q => q), hd.keep u8K_K (by decide) hk (fun q => q)⟩
theorem LaSt.swap {w : World} {own : Nat → Nat} {t g gs : Nat} {ga : Nat → Nat} {S : SV} {x : EP} {eb lb : Nat} {lc : Array Value} {lt : TypeId} {A : Option Addr} {n c td : Nat} {data : List Int} {b : BS} {W : World} {o : Nat → Nat} (H : LaSt w own t g gs ga S x eb lb lc lt A n c td data b W o) (cs : Array Value) (ct : TypeId) : LaSt w own t g gs ga S x eb W.heap.size cs ct A n c td data b (W.alloc (.cells cs ct)) (tagged W o 0) := by
 have h := H.below (ba (w := W) (.cells cs ct))
 exact ⟨h.sv, h.kp, h.ok, h.bn, h.be, h.oe, blkNew rfl, tagged_new (Nat.le_refl _), h.xs, h.da⟩
def LayP (w : World) (own : Nat → Nat) (t g gs : Nat) (ga : Nat → Nat) (S : SV) (r : BS × Bool) (e : Ending) (w' : World) : Prop :=
  e = .returned (if r.2 then .nilIface else refusedV) ∧ BOk r.1 ∧ r.1.n = S.b.n ∧ ∃ own', SvMem w' own' t g gs ga (SV.setB S r.1) ∧ Kp (k3 t) w own w' own'
theorem LaSt.end_ {w : World} {own : Nat → Nat} {t g gs : Nat} {ga : Nat → Nat} {S : SV} {x : EP} {eb lb : Nat} {lc : Array Value} {lt : TypeId} {A : Option Addr} {n c td : Nat} {data : List Int} {b : BS} {W : World} {o : Nat → Nat} (H : LaSt w own t g gs ga S x eb lb lc lt A n c td data b W o) {r : BS × Bool} (h1 : r.1 = b) {v : Value} (h2 : v = if r.2 then .nilIface else refusedV) : LayP w own t g gs ga S r (.returned v) W := by
 subst h1
 subst h2
 exact ⟨rfl, H.ok, H.bn, o, H.sv, H.kp⟩
theorem LaSt.put {w : World} {own : Nat → Nat} {t g gs : Nat} {ga : Nat → Nat} {S : SV} {x : EP} {eb lb : Nat} {lc : Array Value} {lt : TypeId} {A : Option Addr} {n c td : Nat} {data : List Int} {b : BS} {W : World} {o : Nat → Nat} (H : LaSt w own t g gs ga S x eb lb lc lt A n c td data b W o) (ht : t ≠ 0) (htd : ¬ k3 t td) (i : Nat) (hi : i < 8) (m : Nat) (hm : (S.ar i).frm + m < S.b.n) {d : List Int} (hd : u8s d) (hl : d.length = 512) (hp : b.pend.length + 1 < 2 ^ 40) (hf : b.full = false) {W' : World} {D : Option Addr} (hb : Below W.heap.size W W') (hD : BytesAt W' D 512 d) (hfr : ∀ a, D = some a → W.heap.size ≤ a.block) :
  Calls Tryz.prog 95 #[pt g, pt (ga i), .int .i64 (m : Int), .slice D 512 512] W' fun e w' => e = .returned .nilIface ∧ ∃ o', LaSt w own t g gs ga S x eb lb lc lt A n c td data (b.put (((S.ar i).frm + m : Nat) : Int) d) w' o' := by
 have H1 := H.below hb
 obtain ⟨q0, q1, q2, q3⟩ := ar_c1 (H1.sv.ar i hi)
 refine (swrite_ok W' (tagged W o 0) t gs b H1.sv.st g (ga i) (S.ar i).frm m H1.sv.c0 q1 (by rw [H.bn]; exact hm) H.ok.fit D 512 d ht 0 (by omega) ⟨hD, Nat.le_refl _, fun a ha hn => tagged_new (hfr a ha)⟩ hf).mono ?_
 rintro e w' ⟨rfl, o', h1, h2⟩
 exact ⟨rfl, o', H1.turn ht htd h1 (h2.mono (fun q h => by rcases h with h | h; exact .inl h; exact .inr (.inr h))) (BOk.put H.ok (by rw [H.bn]; exact hm) hd hl hp) rfl⟩
theorem LaSt.no {w : World} {own : Nat → Nat} {t g gs : Nat} {ga : Nat → Nat} {S : SV} {x : EP} {eb lb : Nat} {lc : Array Value} {lt : TypeId} {A : Option Addr} {n c td : Nat} {data : List Int} {b : BS} {W : World} {o : Nat → Nat} (H : LaSt w own t g gs ga S x eb lb lc lt A n c td data b W o) (i : Nat) (hi : i < 8) (m : Nat) (hm : (S.ar i).frm + m < S.b.n) (hf : b.full = true) {W' : World} {D : Option Addr} (hb : Below W.heap.size W W') :
  Calls Tryz.prog 95 #[pt g, pt (ga i), .int .i64 (m : Int), .slice D 512 512] W' fun e w' => e = .returned refusedV ∧ ∃ o', LaSt w own t g gs ga S x eb lb lc lt A n c td data b w' o' := by
 have H1 := H.below hb
 obtain ⟨q0, q1, q2, q3⟩ := ar_c1 (H1.sv.ar i hi)
 refine (swrite_full W' (tagged W o 0) t gs b H1.sv.st g (ga i) (S.ar i).frm m H1.sv.c0 q1 (by rw [H.bn]; exact hm) H.ok.fit D 512 hf).mono ?_
 rintro e w' ⟨rfl, k, rfl⟩
 exact ⟨rfl, _, H1.below (bdrew _ _ _)⟩
theorem LaSt.sync {w : World} {own : Nat → Nat} {t g gs : Nat} {ga : Nat → Nat} {S : SV} {x : EP} {eb lb : Nat} {lc : Array Value} {lt : TypeId} {A : Option Addr} {n c td : Nat} {data : List Int} {b : BS} {W : World} {o : Nat → Nat} (H : LaSt w own t g gs ga S x eb lb lc lt A n c td data b W o) (ht : t ≠ 0) (htd : ¬ k3 t td) :
  Calls Tryz.prog 89 #[pt gs] W fun e w' => e = .returned (.tuple #[]) ∧ ∃ o', LaSt w own t g gs ga S x eb lb lc lt A n c td data (BS.sync b) w' o' := by
 refine (sync_ok W o t gs b H.sv.st H.ok.fit.hz H.ok.fit.hp ht H.ok.ok).mono ?_
 rintro e w' ⟨rfl, o', h1, h2⟩
 exact ⟨rfl, o', H.turn ht htd h1 h2 (BOk.sync H.ok) (sync_n H.ok)⟩
def rem (a : AR) (e : EN) (b : BS) : Nat → BS × Bool
 | 0 => match layH a e 0 b with
  | (b2, false) => (b2, false)
  | (b2, true) => layH a e 1 b2
 | 1 => layH a e 1 b
 | _ => (b, true)
theorem rem_step (a : AR) (e : EN) (b : BS) (j : Nat) (hj : j < 2) (hf : b.full = false) : rem a e b j = rem a e (BS.sync (b.put ((a.frm + e.at_.toNat : Nat) : Int) (headS e.hd (j : Int)))) (j + 1) := by
 have h : j = 0 ∨ j = 1 := by omega
 rcases h with rfl | rfl <;> simp [rem, layH, hf]
theorem rem_full (a : AR) (e : EN) (b : BS) (j : Nat) (hj : j < 2) (hf : b.full = true) : rem a e b j = (b, false) := by
 have h : j = 0 ∨ j = 1 := by omega
 rcases h with rfl | rfl <;> simp [rem, layH, hf]
set_option maxRecDepth 100000 in
set_option maxHeartbeats 4000000 in
theorem lay_ok (w : World) (own : Nat → Nat) (t g gs : Nat) (ga : Nat → Nat) (S : SV) (H : SvMem w own t g gs ga S) (ht : t ≠ 0) (i : Nat) (hi : i < 8) (hS : BOk S.b) (ha : (S.ar i).frm + (S.ar i).sec ≤ S.b.n) (ha2 : (S.ar i).sec < 65536)
  (x : EP) (hx : Rd i64K w own 0 x.sl x.en.secs) (hh : x.en.hd.ok) (hsec : ∀ n ∈ x.en.secs, 0 ≤ n ∧ n < ((S.ar i).sec : Int)) (hat : 0 ≤ x.en.at_ ∧ x.en.at_ < ((S.ar i).sec : Int)) (A : Option Addr) (n c td : Nat) (data : List Int) (hd : Rd u8K w own td ⟨A, n, c⟩ data) (htd : ¬ k3 t td) (hu : u8s data) (hn : n < 2 ^ 40) (hm : x.en.secs.length = many n) (hp : S.b.pend.length + x.en.secs.length + 2 < 2 ^ 39) :
  Calls Tryz.prog 56 #[pt g, pt (ga i), x.enc, .slice A n c] w (LayP w own t g gs ga S (layS (S.ar i) x.en data S.b)) := by
 have hdl : data.length = n := hd.1.1
 have hnc : n ≤ c := hd.2.1
 have hxl : x.en.secs.length = x.sl.n := hx.1.1
 have HS := Lib.hid (LaSt.start H (x := x) hS hx hd)
 have hxl40 : x.sl.n < 2 ^ 40 := by rw [← hxl, hm]; unfold many; omega
 have hxa : n ≤ x.sl.n * 510 := by rw [← hxl, hm]; unfold many; omega
 have hxb : x.sl.n * 510 < n + 510 := by rw [← hxl, hm]; unfold many; omega
 clear hm
 clear H hx hd
 obtain ⟨⟨⟨x1, x2, x3, x4, x5, x6⟩, x7, xs⟩, ⟨x8, x9, x10⟩⟩ := x
 unfold EP.enc
 unfold EP.cells at HS
 dsimp only at *
 go_enter Tryz.func56, Tryz.ntmps56
 have HL0 : Hid (∃ k b' o, k ≤ xs.length ∧ Value.int .i64 0 = .int .i64 (k : Int) ∧ LaSt w own t g gs ga S ⟨⟨⟨x1, x2, x3, x4, x5, x6⟩, x7, xs⟩, ⟨x8, x9, x10⟩⟩ w.heap.size w.heap.size #[.int .i64 x1, .string x2, .int .u32 x3, .int .i64 x4, .int .u32 x5, .int .i64 x6, .int .i64 x7, .slice x8 x9 x10] 107 A n c td data b' (w.alloc (.cells #[.int .i64 x1, .string x2, .int .u32 x3, .int .i64 x4, .int .u32 x5, .int .i64 x6, .int .i64 x7, .slice x8 x9 x10] 107)) o ∧ b'.pend.length = S.b.pend.length + k ∧ layD (S.ar i) data S.b 0 xs = layD (S.ar i) data b' k (xs.drop k)) := Lib.hid ⟨0, S.b, _, by omega, rfl, HS.out, rfl, rfl⟩
 clear HS
 have hxl41 : x9 < 2 ^ 40 := hxl40
 generalize hwh : w.heap.size = eb at HL0
 go_wp2_with fail
 go_loopw [19, 9, 10, 11, 12] (fun v _ _ _ _ wr => ∃ k b' o, k ≤ xs.length ∧ v = .int .i64 (k : Int) ∧ LaSt w own t g gs ga S ⟨⟨⟨x1, x2, x3, x4, x5, x6⟩, x7, xs⟩, ⟨x8, x9, x10⟩⟩ eb eb #[.int .i64 x1, .string x2, .int .u32 x3, .int .i64 x4, .int .u32 x5, .int .i64 x6, .int .i64 x7, .slice x8 x9 x10] 107 A n c td data b' wr o ∧ b'.pend.length = S.b.pend.length + k ∧ layD (S.ar i) data S.b 0 xs = layD (S.ar i) data b' k (xs.drop k)) (fun v _ _ _ _ _ => x9 - (intOf v).toNat)
 case atStart => exact HL0.out
 case round =>
  clear HL0
  obtain ⟨k, b, o, hk, rfl, HR, hpd, hlay⟩ := hrel
  by_cases hlt : k < x9
  ·
   have dl : decide ((k : Int) < (x9 : Int)) = true := by simp; omega
   have hkx : (k : Int) < (x9 : Int) := by omega
   have hn0 : k * 510 < n := by omega
   obtain ⟨v, hv⟩ : ∃ v, xs[k]? = some v := ⟨_, List.getElem?_eq_getElem (by omega)⟩
   obtain ⟨ad, hA, hc⟩ := sc_at HR.xs.1 k hlt v hv
   dsimp only at hA
   subst hA
   obtain ⟨d, hD, _⟩ := BytesAt.at_ HR.da.1 0 (show 0 < n by omega)
   dsimp only at hD
   subst hD
   have c7 : wr.cell? ⟨eb, 7, none⟩ = some (.slice (some ad) x9 x10) := Blk.cell (i := 7) HR.be rfl
   obtain ⟨hv0, hv1⟩ := hsec v (List.mem_of_getElem? hv)
   obtain ⟨vn, rfl⟩ := Int.eq_ofNat_of_zero_le hv0
   have hstep := layD_step (S.ar i) data b k xs k (vn : Int) hv
   have hfull := layD_full (S.ar i) data b k xs k (by omega)
   have HDA := Lib.hid HR.da
   have HRR := Lib.hid HR
   have HLY := Lib.hid hlay
   have HPD := Lib.hid hpd
   have HST := Lib.hid hstep
   have HFU := Lib.hid hfull
   have hvn : (S.ar i).frm + vn < S.b.n := by omega
   clear HR hlay hpd hstep hfull
   by_cases hnx : k + 1 < x9
   ·
    have hlast : ((k : Int) + 1) * 510 < (n : Int) := by omega
    have dn : decide ((k : Int) + 1 < (x9 : Int)) = true := by simp; omega
    have hkx1 : (k : Int) + 1 < (x9 : Int) := by omega
    obtain ⟨v2, hv2⟩ : ∃ v2, xs[k + 1]? = some v2 := ⟨_, List.getElem?_eq_getElem (by omega)⟩
    obtain ⟨ad', hA', hc'⟩ := sc_at HRR.out.xs.1 (k + 1) hnx v2 hv2
    dsimp only at hA'
    injection hA' with hA'
    subst hA'
    rw [show ad.add (k + 1) = ⟨ad.block, ad.off + (k + 1), none⟩ from by unfold Addr.add; rw [if_neg (by omega)]] at hc'
    obtain ⟨hv20, hv21⟩ := hsec v2 (List.mem_of_getElem? hv2)
    obtain ⟨vm, rfl⟩ := Int.eq_ofNat_of_zero_le hv20
    have hgx : (xs[k + 1]?).getD 0 = ((vm : Nat) : Int) := by rw [hv2]; rfl
    have HPT := Lib.hid (part_ok wr (some (d.add (k * 510))) ((k + 1) * 510 - k * 510) (c - k * 510) (chunk data k) (by
     have h := cut_any HDA.out.1 (k * 510) ((k + 1) * 510 - k * 510) (by show k * 510 + ((k + 1) * 510 - k * 510) ≤ n; omega)
     have e : chunk data k = (data.drop (k * 510)).take ((k + 1) * 510 - k * 510) := by
      unfold chunk
      first
      | (rw [List.take_of_length_le (by rw [List.length_drop]; omega), List.take_of_length_le (by rw [List.length_drop]; omega)]; done)
      | (congr 1; omega)
     rw [e]
     exact h) (by omega) (by omega) (by omega) vm (by omega))
    have HPS := Lib.hid (partS_ok (d := chunk data k) (fun y hy => hu y (List.mem_of_mem_drop (List.mem_of_mem_take hy))) (vm : Nat) (by unfold chunk; rw [List.length_take]; omega))
    rw [hgx] at HST
    clear hgx
    by_cases hful : b.full = true
    ·
     have HF1 := Lib.hid (HLY.out.trans (HFU.out hful))
     have HFF := Lib.hid hful
     clear hful HST
     go_wp2_with (first | (go_at_call 96; refine HPT.out.mono ?_; rintro e w2 ⟨D, rfl, f1, f2, f3⟩; have HNO := Lib.hid (HRR.out.no i hi vn hvn HFF.out (D := D) f3)) | (go_at_call 95; refine HNO.out.mono ?_; rintro e w3 ⟨rfl, o3, H3⟩; unfold refusedV))
     go_ret
     exact H3.end_ (by unfold layS; rw [HF1.out]) (by unfold layS; rw [HF1.out]; rfl)
    ·
     have hfl : b.full = false := by cases hb : b.full with | false => rfl | true => exact absurd hb hful
     have HF1 := Lib.hid (HLY.out.trans (HST.out hfl))
     have HFF := Lib.hid hfl
     clear hful hfl HST
     go_wp2_with (first | (go_at_call 96; refine HPT.out.mono ?_; rintro e w2 ⟨D, rfl, f1, f2, f3⟩; have HNO := Lib.hid (HRR.out.put ht htd i hi vn hvn HPS.out.1 HPS.out.2 (by have := HPD.out; omega) HFF.out f3 f1 f2)) | (go_at_call 95; refine HNO.out.mono ?_; rintro e w3 ⟨rfl, o3, H3⟩))
     go_roundw
     case rel => exact ⟨k + 1, _, o3, by omega, by go_num, H3, by show (b.pend ++ [_]).length = _; rw [List.length_append, HPD.out]; simp; omega, HF1.out⟩
     case measure => simp [intOf]; omega
   ·
    have hlast : (n : Int) ≤ ((k : Int) + 1) * 510 := by omega
    have dn : decide ((k : Int) + 1 < (x9 : Int)) = false := by simp; omega
    have hgx : (xs[k + 1]?).getD 0 = ((0 : Nat) : Int) := by rw [List.getElem?_eq_none (by omega)]; rfl
    have HPT := Lib.hid (part_ok wr (some (d.add (k * 510))) (n - k * 510) (c - k * 510) (chunk data k) (by
     have h := cut_any HDA.out.1 (k * 510) (n - k * 510) (by show k * 510 + (n - k * 510) ≤ n; omega)
     have e : chunk data k = (data.drop (k * 510)).take (n - k * 510) := by
      unfold chunk
      first
      | (rw [List.take_of_length_le (by rw [List.length_drop]; omega), List.take_of_length_le (by rw [List.length_drop]; omega)]; done)
      | (congr 1; omega)
     rw [e]
     exact h) (by omega) (by omega) (by omega) 0 (by omega))
    have HPS := Lib.hid (partS_ok (d := chunk data k) (fun y hy => hu y (List.mem_of_mem_drop (List.mem_of_mem_take hy))) (0 : Nat) (by unfold chunk; rw [List.length_take]; omega))
    rw [hgx] at HST
    clear hgx
    by_cases hful : b.full = true
    ·
     have HF1 := Lib.hid (HLY.out.trans (HFU.out hful))
     have HFF := Lib.hid hful
     clear hful HST
     go_wp2_with (first | (go_at_call 96; refine HPT.out.mono ?_; rintro e w2 ⟨D, rfl, f1, f2, f3⟩; have HNO := Lib.hid (HRR.out.no i hi vn hvn HFF.out (D := D) f3)) | (go_at_call 95; refine HNO.out.mono ?_; rintro e w3 ⟨rfl, o3, H3⟩; unfold refusedV))
     go_ret
     exact H3.end_ (by unfold layS; rw [HF1.out]) (by unfold layS; rw [HF1.out]; rfl)
    ·
     have hfl : b.full = false := by cases hb : b.full with | false => rfl | true => exact absurd hb hful
     have HF1 := Lib.hid (HLY.out.trans (HST.out hfl))
     have HFF := Lib.hid hfl
     clear hful hfl HST
     go_wp2_with (first | (go_at_call 96; refine HPT.out.mono ?_; rintro e w2 ⟨D, rfl, f1, f2, f3⟩; have HNO := Lib.hid (HRR.out.put ht htd i hi vn hvn HPS.out.1 HPS.out.2 (by have := HPD.out; omega) HFF.out f3 f1 f2)) | (go_at_call 95; refine HNO.out.mono ?_; rintro e w3 ⟨rfl, o3, H3⟩))
     go_roundw
     case rel => exact ⟨k + 1, _, o3, by omega, by go_num, H3, by show (b.pend ++ [_]).length = _; rw [List.length_append, HPD.out]; simp; omega, HF1.out⟩
     case measure => simp [intOf]; omega
  ·
   obtain rfl : k = x9 := by omega
   have dl : decide ((k : Int) < (k : Int)) = false := by simp
   have HL1 : layS (S.ar i) ⟨⟨x1, x2, x3, x4, x5, x6⟩, x7, xs⟩ data S.b = rem (S.ar i) ⟨⟨x1, x2, x3, x4, x5, x6⟩, x7, xs⟩ b 0 := by
    unfold layS rem
    dsimp only
    rw [hlay, List.drop_of_length_le (by omega)]
    rfl
   have HL2 := Lib.hid HL1
   have HPD := Lib.hid hpd
   have HRR := Lib.hid (HR.swap #[.int .u8 0, .int .u8 1] 5)
   clear HL1 hlay hpd HR
   have HA0 : Hid (∃ (j : Nat) (b2 : BS) (o2 : Nat → Nat), j ≤ 2 ∧ Value.int .i64 0 = .int .i64 (j : Int) ∧ LaSt w own t g gs ga S ⟨⟨⟨x1, x2, x3, x4, x5, x6⟩, x7, xs⟩, ⟨x8, k, x10⟩⟩ eb wr.heap.size #[.int .u8 0, .int .u8 1] 5 A n c td data b2 (wr.alloc (.cells #[.int .u8 0, .int .u8 1] 5)) o2 ∧ b2.pend.length ≤ S.b.pend.length + k ∧ layS (S.ar i) ⟨⟨x1, x2, x3, x4, x5, x6⟩, x7, xs⟩ data S.b = rem (S.ar i) ⟨⟨x1, x2, x3, x4, x5, x6⟩, x7, xs⟩ b2 j) := Lib.hid ⟨0, b, _, by omega, rfl, HRR.out, by rw [HPD.out]; omega, HL2.out⟩
   clear HRR HPD HL2
   generalize hlb : wr.heap.size = lb at HA0
   go_wp2_with fail
   go_loopw [58, 14, 15] (fun v _ _ wr => ∃ (j : Nat) (b2 : BS) (o2 : Nat → Nat), j ≤ 2 ∧ v = .int .i64 (j : Int) ∧ LaSt w own t g gs ga S ⟨⟨⟨x1, x2, x3, x4, x5, x6⟩, x7, xs⟩, ⟨x8, k, x10⟩⟩ eb lb #[.int .u8 0, .int .u8 1] 5 A n c td data b2 wr o2 ∧ b2.pend.length ≤ S.b.pend.length + k ∧ layS (S.ar i) ⟨⟨x1, x2, x3, x4, x5, x6⟩, x7, xs⟩ data S.b = rem (S.ar i) ⟨⟨x1, x2, x3, x4, x5, x6⟩, x7, xs⟩ b2 j) (fun v _ _ _ => 2 - (intOf v).toNat)
   case atStart => exact HA0.out
   case round =>
    clear HA0
    rename_i wr0 _ _ _ _ _ wr _
    obtain ⟨j, b2, o2, hj, rfl, HR, hpd, hrem⟩ := hrel
    obtain ⟨at_, rfl⟩ := Int.eq_ofNat_of_zero_le hat.1
    have hvn : (S.ar i).frm + at_ < S.b.n := by have := hat.2; omega
    have hst := rem_step (S.ar i) ⟨⟨x1, x2, x3, x4, x5, x6⟩, (at_ : Int), xs⟩ b2 j
    have hfu := rem_full (S.ar i) ⟨⟨x1, x2, x3, x4, x5, x6⟩, (at_ : Int), xs⟩ b2 j
    rcases (show j = 0 ∨ j = 1 ∨ j = 2 by omega) with rfl | rfl | rfl
    ·
     have hbe := HR.be
     have clb : wr.cell? ⟨lb, 0, none⟩ = some (.int .u8 0) := Blk.cell (i := 0) HR.bl rfl
     have HRR := Lib.hid HR
     have HPD := Lib.hid hpd
     have HRE := Lib.hid hrem
     by_cases hful : b2.full = true
     ·
      have HF1 := Lib.hid (hrem.trans (hfu (by omega) hful))
      have HFF := Lib.hid hful
      clear hful hst hfu HR hpd hrem
      go_upto_region 14 with (fail)
      refine start_ (n := 10) (S := fun w' => Blk w' eb #[.int .i64 x1, .string x2, .int .u32 x3, .int .i64 x4, .int .u32 x5, .int .i64 x6, .int .i64 (at_ : Int), .slice x8 k x10] 107) (ds := []) #[false, false, false, false, false, false, false, false, false, false] (by kernel_rfl) rfl rfl hbe (fun hHeld => ?_)
      refine pu_ (i := 0) (N := some 62) (v := ?_) (a' := ?_) rfl rfl (by kernel_rfl) (fun _ _ _ h => h) (by rfl) ?_ ?_ ?_
      rotate_left
      · (intro w'; go_simp; with_reducible rfl)
      rotate_left
      · (simp only [put_s, List.set, i64_w, i32_w]; rfl)
      refine pu_ (i := 1) (N := some 63) (v := ?_) (a' := ?_) rfl rfl (by kernel_rfl) (fun _ _ _ h => h) (by rfl) ?_ ?_ ?_
      rotate_left
      · (intro w'; go_simp; with_reducible rfl)
      rotate_left
      · (simp only [put_s, List.set, i64_w, i32_w]; rfl)
      refine pu_ (i := 2) (N := some 64) (v := ?_) (a' := ?_) rfl rfl (by kernel_rfl) (fun _ _ _ h => h) (by rfl) ?_ ?_ ?_
      rotate_left
      · (intro w'; go_simp; with_reducible rfl)
      rotate_left
      · (simp only [put_s, List.set, i64_w, i32_w]; rfl)
      refine tk_ (i := 3) (N := some 65) (v := ?_) (a' := ?_) rfl rfl (by kernel_rfl) (fun _ _ _ h => h) (by rfl) ?_ hHeld ?_ ?_
      rotate_left
      ·
       intro w' s0
       have q0 := Blk.cell (i := 0) s0 rfl; have q1 := Blk.cell (i := 1) s0 rfl; have q2 := Blk.cell (i := 2) s0 rfl; have q3 := Blk.cell (i := 3) s0 rfl; have q4 := Blk.cell (i := 4) s0 rfl; have q5 := Blk.cell (i := 5) s0 rfl; have q6 := Blk.cell (i := 6) s0 rfl
       go_simp
       with_reducible rfl
      rotate_left
      · (simp only [put_s, List.set, i64_w, i32_w]; rfl)
      refine pu_ (i := 4) (N := some 66) (v := ?_) (a' := ?_) rfl rfl (by kernel_rfl) (fun _ _ _ h => h) (by rfl) ?_ ?_ ?_
      rotate_left
      · (intro w'; go_simp; with_reducible rfl)
      rotate_left
      · (simp only [put_s, List.set, i64_w, i32_w]; rfl)
      refine tk_ (i := 5) (N := some 67) (v := ?_) (a' := ?_) rfl rfl (by kernel_rfl) (fun _ _ _ h => h) (by rfl) ?_ hHeld ?_ ?_
      rotate_left
      ·
       intro w' s0
       have q0 := Blk.cell (i := 0) s0 rfl; have q1 := Blk.cell (i := 1) s0 rfl; have q2 := Blk.cell (i := 2) s0 rfl; have q3 := Blk.cell (i := 3) s0 rfl; have q4 := Blk.cell (i := 4) s0 rfl; have q5 := Blk.cell (i := 5) s0 rfl; have q6 := Blk.cell (i := 6) s0 rfl
       go_simp
       with_reducible rfl
      rotate_left
      · (simp only [put_s, List.set, i64_w, i32_w]; rfl)
      refine pu_ (i := 6) (N := some 68) (v := ?_) (a' := ?_) rfl rfl (by kernel_rfl) (fun _ _ _ h => h) (by rfl) ?_ ?_ ?_
      rotate_left
      · (intro w'; go_simp; with_reducible rfl)
      rotate_left
      · (simp only [put_s, List.set, i64_w, i32_w]; rfl)
      refine on_ (i := 7) (N := some 69) rfl rfl (by kernel_rfl) (by decide) (fun K hK => ?_)
      refine goes_ Tryz.func97 (by kernel_rfl) rfl #[HD.enc ⟨x1, x2, x3, x4, x5, x6⟩, .int .u8 0] (by first | rfl | (simp [Act.eval]; done)) rfl rfl (by unfold HD.enc; first | rfl | (simp [Act.eval]; done)) ?_
      refine Calls.mono (bytes_ok _ ⟨x1, x2, x3, x4, x5, x6⟩ hh 0) ?_
      rintro e w2 ⟨D, rfl, f1, f2, f3⟩
      refine ⟨_, rfl, ?_⟩
      refine hK.out _ _ (Blk.below hHeld f3) (fun hHeld => ?_)
      clear hK K
      refine norm_ (a' := ?_) ?_ ?_
      rotate_left
      ·
       show Act.put _ (some 69) _ = _
       simp only [put_s, List.set, i64_w, i32_w]
       rfl
      refine on_ (i := 8) (N := some 70) rfl rfl (by kernel_rfl) (by decide) (fun K hK => ?_)
      refine goes_ Tryz.func95 (by kernel_rfl) rfl #[pt g, pt (ga i), .int .i64 (at_ : Int), .slice D 512 512] (by first | rfl | (simp [Act.eval]; done)) rfl rfl (by first | rfl | (simp [Act.eval]; done)) ?_
      refine Calls.mono (HRR.out.no i hi at_ hvn HFF.out (D := D) ((show Below _ wr wr.drew from bdrew _ wr 1).trans f3)) ?_
      rintro e w3 ⟨rfl, o3, H3⟩
      refine ⟨_, rfl, ?_⟩
      refine hK.out _ _ H3.be (fun hHeld => ?_)
      clear hK K
      refine norm_ (a' := ?_) ?_ ?_
      rotate_left
      ·
       show Act.put _ (some 70) _ = _
       simp only [put_s, List.set, i64_w, i32_w]
       rfl
      refine pu_ (i := 9) (N := some 15) (v := ?_) (a' := ?_) rfl rfl (by kernel_rfl) (fun _ _ _ h => h) (by rfl) ?_ ?_ ?_
      rotate_left
      · (intro w'; go_simp; with_reducible rfl)
      rotate_left
      · (simp only [put_s, List.set, i64_w, i32_w]; rfl)
      refine done_ (by kernel_rfl) ?_
      have H3' := Lib.hid H3
      clear H3 hHeld f1 f2 f3 hbe clb
      unfold refusedV
      go_wp2_with fail
      go_ret
      exact H3'.out.end_ (by rw [HF1.out]) (by rw [HF1.out]; rfl)
     ·
      have hfl : b2.full = false := by cases hb : b2.full with | false => rfl | true => exact absurd hb hful
      have HF1 := Lib.hid (hrem.trans (hst (by omega) hfl))
      have HFF := Lib.hid hfl
      clear hful hfl hst hfu HR hpd hrem
      go_upto_region 14 with (fail)
      refine start_ (n := 10) (S := fun w' => Blk w' eb #[.int .i64 x1, .string x2, .int .u32 x3, .int .i64 x4, .int .u32 x5, .int .i64 x6, .int .i64 (at_ : Int), .slice x8 k x10] 107) (ds := []) #[false, false, false, false, false, false, false, false, false, false] (by kernel_rfl) rfl rfl hbe (fun hHeld => ?_)
      refine pu_ (i := 0) (N := some 62) (v := ?_) (a' := ?_) rfl rfl (by kernel_rfl) (fun _ _ _ h => h) (by rfl) ?_ ?_ ?_
      rotate_left
      · (intro w'; go_simp; with_reducible rfl)
      rotate_left
      · (simp only [put_s, List.set, i64_w, i32_w]; rfl)
      refine pu_ (i := 1) (N := some 63) (v := ?_) (a' := ?_) rfl rfl (by kernel_rfl) (fun _ _ _ h => h) (by rfl) ?_ ?_ ?_
      rotate_left
      · (intro w'; go_simp; with_reducible rfl)
      rotate_left
      · (simp only [put_s, List.set, i64_w, i32_w]; rfl)
      refine pu_ (i := 2) (N := some 64) (v := ?_) (a' := ?_) rfl rfl (by kernel_rfl) (fun _ _ _ h => h) (by rfl) ?_ ?_ ?_
      rotate_left
      · (intro w'; go_simp; with_reducible rfl)
      rotate_left
      · (simp only [put_s, List.set, i64_w, i32_w]; rfl)
      refine tk_ (i := 3) (N := some 65) (v := ?_) (a' := ?_) rfl rfl (by kernel_rfl) (fun _ _ _ h => h) (by rfl) ?_ hHeld ?_ ?_
      rotate_left
      ·
       intro w' s0
       have q0 := Blk.cell (i := 0) s0 rfl; have q1 := Blk.cell (i := 1) s0 rfl; have q2 := Blk.cell (i := 2) s0 rfl; have q3 := Blk.cell (i := 3) s0 rfl; have q4 := Blk.cell (i := 4) s0 rfl; have q5 := Blk.cell (i := 5) s0 rfl; have q6 := Blk.cell (i := 6) s0 rfl
       go_simp
       with_reducible rfl
      rotate_left
      · (simp only [put_s, List.set, i64_w, i32_w]; rfl)
      refine pu_ (i := 4) (N := some 66) (v := ?_) (a' := ?_) rfl rfl (by kernel_rfl) (fun _ _ _ h => h) (by rfl) ?_ ?_ ?_
      rotate_left
      · (intro w'; go_simp; with_reducible rfl)
      rotate_left
      · (simp only [put_s, List.set, i64_w, i32_w]; rfl)
      refine tk_ (i := 5) (N := some 67) (v := ?_) (a' := ?_) rfl rfl (by kernel_rfl) (fun _ _ _ h => h) (by rfl) ?_ hHeld ?_ ?_
      rotate_left
      ·
       intro w' s0
       have q0 := Blk.cell (i := 0) s0 rfl; have q1 := Blk.cell (i := 1) s0 rfl; have q2 := Blk.cell (i := 2) s0 rfl; have q3 := Blk.cell (i := 3) s0 rfl; have q4 := Blk.cell (i := 4) s0 rfl; have q5 := Blk.cell (i := 5) s0 rfl; have q6 := Blk.cell (i := 6) s0 rfl
       go_simp
       with_reducible rfl
      rotate_left
      · (simp only [put_s, List.set, i64_w, i32_w]; rfl)
      refine pu_ (i := 6) (N := some 68) (v := ?_) (a' := ?_) rfl rfl (by kernel_rfl) (fun _ _ _ h => h) (by rfl) ?_ ?_ ?_
      rotate_left
      · (intro w'; go_simp; with_reducible rfl)
      rotate_left
      · (simp only [put_s, List.set, i64_w, i32_w]; rfl)
      refine on_ (i := 7) (N := some 69) rfl rfl (by kernel_rfl) (by decide) (fun K hK => ?_)
      refine goes_ Tryz.func97 (by kernel_rfl) rfl #[HD.enc ⟨x1, x2, x3, x4, x5, x6⟩, .int .u8 0] (by first | rfl | (simp [Act.eval]; done)) rfl rfl (by unfold HD.enc; first | rfl | (simp [Act.eval]; done)) ?_
      refine Calls.mono (bytes_ok _ ⟨x1, x2, x3, x4, x5, x6⟩ hh 0) ?_
      rintro e w2 ⟨D, rfl, f1, f2, f3⟩
      refine ⟨_, rfl, ?_⟩
      refine hK.out _ _ (Blk.below hHeld f3) (fun hHeld => ?_)
      clear hK K
      refine norm_ (a' := ?_) ?_ ?_
      rotate_left
      ·
       show Act.put _ (some 69) _ = _
       simp only [put_s, List.set, i64_w, i32_w]
       rfl
      refine on_ (i := 8) (N := some 70) rfl rfl (by kernel_rfl) (by decide) (fun K hK => ?_)
      refine goes_ Tryz.func95 (by kernel_rfl) rfl #[pt g, pt (ga i), .int .i64 (at_ : Int), .slice D 512 512] (by first | rfl | (simp [Act.eval]; done)) rfl rfl (by first | rfl | (simp [Act.eval]; done)) ?_
      refine Calls.mono (HRR.out.put ht htd i hi at_ hvn (headS_ok hh (f := 0) (by omega)).1 (headS_ok hh (f := 0) (by omega)).2 (by have := HPD.out; omega) HFF.out ((show Below _ wr wr.drew from bdrew _ wr 1).trans f3) f1 f2) ?_
      rintro e w3 ⟨rfl, o3, H3⟩
      refine ⟨_, rfl, ?_⟩
      refine hK.out _ _ H3.be (fun hHeld => ?_)
      clear hK K
      refine norm_ (a' := ?_) ?_ ?_
      rotate_left
      ·
       show Act.put _ (some 70) _ = _
       simp only [put_s, List.set, i64_w, i32_w]
       rfl
      refine pu_ (i := 9) (N := some 15) (v := ?_) (a' := ?_) rfl rfl (by kernel_rfl) (fun _ _ _ h => h) (by rfl) ?_ ?_ ?_
      rotate_left
      · (intro w'; go_simp; with_reducible rfl)
      rotate_left
      · (simp only [put_s, List.set, i64_w, i32_w]; rfl)
      refine done_ (by kernel_rfl) ?_
      have c0 := H3.sv.c0
      have HSY := Lib.hid (H3.sync ht htd)
      clear H3 hHeld f1 f2 f3 hbe clb
      go_wp2_with (go_at_call 89; refine HSY.out.mono ?_; rintro e w4 ⟨rfl, o4, H4⟩)
      go_roundw
      case rel => exact ⟨0 + 1, _, o4, by omega, by go_num, H4, by show ([] : List (Int × List Int)).length ≤ _; simp, HF1.out⟩
      case measure => simp [intOf]
    ·
     have hbe := HR.be
     have clb : wr.cell? ⟨lb, 1, none⟩ = some (.int .u8 1) := Blk.cell (i := 1) HR.bl rfl
     have HRR := Lib.hid HR
     have HPD := Lib.hid hpd
     have HRE := Lib.hid hrem
     by_cases hful : b2.full = true
     ·
      have HF1 := Lib.hid (hrem.trans (hfu (by omega) hful))
      have HFF := Lib.hid hful
      clear hful hst hfu HR hpd hrem
      go_upto_region 14 with (fail)
      refine start_ (n := 10) (S := fun w' => Blk w' eb #[.int .i64 x1, .string x2, .int .u32 x3, .int .i64 x4, .int .u32 x5, .int .i64 x6, .int .i64 (at_ : Int), .slice x8 k x10] 107) (ds := []) #[false, false, false, false, false, false, false, false, false, false] (by kernel_rfl) rfl rfl hbe (fun hHeld => ?_)
      refine pu_ (i := 0) (N := some 62) (v := ?_) (a' := ?_) rfl rfl (by kernel_rfl) (fun _ _ _ h => h) (by rfl) ?_ ?_ ?_
      rotate_left
      · (intro w'; go_simp; with_reducible rfl)
      rotate_left
      · (simp only [put_s, List.set, i64_w, i32_w]; rfl)
      refine pu_ (i := 1) (N := some 63) (v := ?_) (a' := ?_) rfl rfl (by kernel_rfl) (fun _ _ _ h => h) (by rfl) ?_ ?_ ?_
      rotate_left
      · (intro w'; go_simp; with_reducible rfl)
      rotate_left
      · (simp only [put_s, List.set, i64_w, i32_w]; rfl)
      refine pu_ (i := 2) (N := some 64) (v := ?_) (a' := ?_) rfl rfl (by kernel_rfl) (fun _ _ _ h => h) (by rfl) ?_ ?_ ?_
      rotate_left
      · (intro w'; go_simp; with_reducible rfl)
      rotate_left
      · (simp only [put_s, List.set, i64_w, i32_w]; rfl)
      refine tk_ (i := 3) (N := some 65) (v := ?_) (a' := ?_) rfl rfl (by kernel_rfl) (fun _ _ _ h => h) (by rfl) ?_ hHeld ?_ ?_
      rotate_left
      ·
       intro w' s0
       have q0 := Blk.cell (i := 0) s0 rfl; have q1 := Blk.cell (i := 1) s0 rfl; have q2 := Blk.cell (i := 2) s0 rfl; have q3 := Blk.cell (i := 3) s0 rfl; have q4 := Blk.cell (i := 4) s0 rfl; have q5 := Blk.cell (i := 5) s0 rfl; have q6 := Blk.cell (i := 6) s0 rfl
       go_simp
       with_reducible rfl
      rotate_left
      · (simp only [put_s, List.set, i64_w, i32_w]; rfl)
      refine pu_ (i := 4) (N := some 66) (v := ?_) (a' := ?_) rfl rfl (by kernel_rfl) (fun _ _ _ h => h) (by rfl) ?_ ?_ ?_
      rotate_left
      · (intro w'; go_simp; with_reducible rfl)
      rotate_left
      · (simp only [put_s, List.set, i64_w, i32_w]; rfl)
      refine tk_ (i := 5) (N := some 67) (v := ?_) (a' := ?_) rfl rfl (by kernel_rfl) (fun _ _ _ h => h) (by rfl) ?_ hHeld ?_ ?_
      rotate_left
      ·
       intro w' s0
       have q0 := Blk.cell (i := 0) s0 rfl; have q1 := Blk.cell (i := 1) s0 rfl; have q2 := Blk.cell (i := 2) s0 rfl; have q3 := Blk.cell (i := 3) s0 rfl; have q4 := Blk.cell (i := 4) s0 rfl; have q5 := Blk.cell (i := 5) s0 rfl; have q6 := Blk.cell (i := 6) s0 rfl
       go_simp
       with_reducible rfl
      rotate_left
      · (simp only [put_s, List.set, i64_w, i32_w]; rfl)
      refine pu_ (i := 6) (N := some 68) (v := ?_) (a' := ?_) rfl rfl (by kernel_rfl) (fun _ _ _ h => h) (by rfl) ?_ ?_ ?_
      rotate_left
      · (intro w'; go_simp; with_reducible rfl)
      rotate_left
      · (simp only [put_s, List.set, i64_w, i32_w]; rfl)
      refine on_ (i := 7) (N := some 69) rfl rfl (by kernel_rfl) (by decide) (fun K hK => ?_)
      refine goes_ Tryz.func97 (by kernel_rfl) rfl #[HD.enc ⟨x1, x2, x3, x4, x5, x6⟩, .int .u8 1] (by first | rfl | (simp [Act.eval]; done)) rfl rfl (by unfold HD.enc; first | rfl | (simp [Act.eval]; done)) ?_
      refine Calls.mono (bytes_ok _ ⟨x1, x2, x3, x4, x5, x6⟩ hh 1) ?_
      rintro e w2 ⟨D, rfl, f1, f2, f3⟩
      refine ⟨_, rfl, ?_⟩
      refine hK.out _ _ (Blk.below hHeld f3) (fun hHeld => ?_)
      clear hK K
      refine norm_ (a' := ?_) ?_ ?_
      rotate_left
      ·
       show Act.put _ (some 69) _ = _
       simp only [put_s, List.set, i64_w, i32_w]
       rfl
      refine on_ (i := 8) (N := some 70) rfl rfl (by kernel_rfl) (by decide) (fun K hK => ?_)
      refine goes_ Tryz.func95 (by kernel_rfl) rfl #[pt g, pt (ga i), .int .i64 (at_ : Int), .slice D 512 512] (by first | rfl | (simp [Act.eval]; done)) rfl rfl (by first | rfl | (simp [Act.eval]; done)) ?_
      refine Calls.mono (HRR.out.no i hi at_ hvn HFF.out (D := D) ((show Below _ wr wr.drew from bdrew _ wr 1).trans f3)) ?_
      rintro e w3 ⟨rfl, o3, H3⟩
      refine ⟨_, rfl, ?_⟩
      refine hK.out _ _ H3.be (fun hHeld => ?_)
      clear hK K
      refine norm_ (a' := ?_) ?_ ?_
      rotate_left
      ·
       show Act.put _ (some 70) _ = _
       simp only [put_s, List.set, i64_w, i32_w]
       rfl
      refine pu_ (i := 9) (N := some 15) (v := ?_) (a' := ?_) rfl rfl (by kernel_rfl) (fun _ _ _ h => h) (by rfl) ?_ ?_ ?_
      rotate_left
      · (intro w'; go_simp; with_reducible rfl)
      rotate_left
      · (simp only [put_s, List.set, i64_w, i32_w]; rfl)
      refine done_ (by kernel_rfl) ?_
      have H3' := Lib.hid H3
      clear H3 hHeld f1 f2 f3 hbe clb
      unfold refusedV
      go_wp2_with fail
      go_ret
      exact H3'.out.end_ (by rw [HF1.out]) (by rw [HF1.out]; rfl)
     ·
      have hfl : b2.full = false := by cases hb : b2.full with | false => rfl | true => exact absurd hb hful
      have HF1 := Lib.hid (hrem.trans (hst (by omega) hfl))
      have HFF := Lib.hid hfl
      clear hful hfl hst hfu HR hpd hrem
      go_upto_region 14 with (fail)
      refine start_ (n := 10) (S := fun w' => Blk w' eb #[.int .i64 x1, .string x2, .int .u32 x3, .int .i64 x4, .int .u32 x5, .int .i64 x6, .int .i64 (at_ : Int), .slice x8 k x10] 107) (ds := []) #[false, false, false, false, false, false, false, false, false, false] (by kernel_rfl) rfl rfl hbe (fun hHeld => ?_)
      refine pu_ (i := 0) (N := some 62) (v := ?_) (a' := ?_) rfl rfl (by kernel_rfl) (fun _ _ _ h => h) (by rfl) ?_ ?_ ?_
      rotate_left
      · (intro w'; go_simp; with_reducible rfl)
      rotate_left
      · (simp only [put_s, List.set, i64_w, i32_w]; rfl)
      refine pu_ (i := 1) (N := some 63) (v := ?_) (a' := ?_) rfl rfl (by kernel_rfl) (fun _ _ _ h => h) (by rfl) ?_ ?_ ?_
      rotate_left
      · (intro w'; go_simp; with_reducible rfl)
      rotate_left
      · (simp only [put_s, List.set, i64_w, i32_w]; rfl)
      refine pu_ (i := 2) (N := some 64) (v := ?_) (a' := ?_) rfl rfl (by kernel_rfl) (fun _ _ _ h => h) (by rfl) ?_ ?_ ?_
      rotate_left
      · (intro w'; go_simp; with_reducible rfl)
      rotate_left
      · (simp only [put_s, List.set, i64_w, i32_w]; rfl)
      refine tk_ (i := 3) (N := some 65) (v := ?_) (a' := ?_) rfl rfl (by kernel_rfl) (fun _ _ _ h => h) (by rfl) ?_ hHeld ?_ ?_
      rotate_left
      ·
       intro w' s0
       have q0 := Blk.cell (i := 0) s0 rfl; have q1 := Blk.cell (i := 1) s0 rfl; have q2 := Blk.cell (i := 2) s0 rfl; have q3 := Blk.cell (i := 3) s0 rfl; have q4 := Blk.cell (i := 4) s0 rfl; have q5 := Blk.cell (i := 5) s0 rfl; have q6 := Blk.cell (i := 6) s0 rfl
       go_simp
       with_reducible rfl
      rotate_left
      · (simp only [put_s, List.set, i64_w, i32_w]; rfl)
      refine pu_ (i := 4) (N := some 66) (v := ?_) (a' := ?_) rfl rfl (by kernel_rfl) (fun _ _ _ h => h) (by rfl) ?_ ?_ ?_
      rotate_left
      · (intro w'; go_simp; with_reducible rfl)
      rotate_left
      · (simp only [put_s, List.set, i64_w, i32_w]; rfl)
      refine tk_ (i := 5) (N := some 67) (v := ?_) (a' := ?_) rfl rfl (by kernel_rfl) (fun _ _ _ h => h) (by rfl) ?_ hHeld ?_ ?_
      rotate_left
      ·
       intro w' s0
       have q0 := Blk.cell (i := 0) s0 rfl; have q1 := Blk.cell (i := 1) s0 rfl; have q2 := Blk.cell (i := 2) s0 rfl; have q3 := Blk.cell (i := 3) s0 rfl; have q4 := Blk.cell (i := 4) s0 rfl; have q5 := Blk.cell (i := 5) s0 rfl; have q6 := Blk.cell (i := 6) s0 rfl
       go_simp
       with_reducible rfl
      rotate_left
      · (simp only [put_s, List.set, i64_w, i32_w]; rfl)
      refine pu_ (i := 6) (N := some 68) (v := ?_) (a' := ?_) rfl rfl (by kernel_rfl) (fun _ _ _ h => h) (by rfl) ?_ ?_ ?_
      rotate_left
      · (intro w'; go_simp; with_reducible rfl)
      rotate_left
      · (simp only [put_s, List.set, i64_w, i32_w]; rfl)
      refine on_ (i := 7) (N := some 69) rfl rfl (by kernel_rfl) (by decide) (fun K hK => ?_)
      refine goes_ Tryz.func97 (by kernel_rfl) rfl #[HD.enc ⟨x1, x2, x3, x4, x5, x6⟩, .int .u8 1] (by first | rfl | (simp [Act.eval]; done)) rfl rfl (by unfold HD.enc; first | rfl | (simp [Act.eval]; done)) ?_
      refine Calls.mono (bytes_ok _ ⟨x1, x2, x3, x4, x5, x6⟩ hh 1) ?_
      rintro e w2 ⟨D, rfl, f1, f2, f3⟩
      refine ⟨_, rfl, ?_⟩
      refine hK.out _ _ (Blk.below hHeld f3) (fun hHeld => ?_)
      clear hK K
      refine norm_ (a' := ?_) ?_ ?_
      rotate_left
      ·
       show Act.put _ (some 69) _ = _
       simp only [put_s, List.set, i64_w, i32_w]
       rfl
      refine on_ (i := 8) (N := some 70) rfl rfl (by kernel_rfl) (by decide) (fun K hK => ?_)
      refine goes_ Tryz.func95 (by kernel_rfl) rfl #[pt g, pt (ga i), .int .i64 (at_ : Int), .slice D 512 512] (by first | rfl | (simp [Act.eval]; done)) rfl rfl (by first | rfl | (simp [Act.eval]; done)) ?_
      refine Calls.mono (HRR.out.put ht htd i hi at_ hvn (headS_ok hh (f := 1) (by omega)).1 (headS_ok hh (f := 1) (by omega)).2 (by have := HPD.out; omega) HFF.out ((show Below _ wr wr.drew from bdrew _ wr 1).trans f3) f1 f2) ?_
      rintro e w3 ⟨rfl, o3, H3⟩
      refine ⟨_, rfl, ?_⟩
      refine hK.out _ _ H3.be (fun hHeld => ?_)
      clear hK K
      refine norm_ (a' := ?_) ?_ ?_
      rotate_left
      ·
       show Act.put _ (some 70) _ = _
       simp only [put_s, List.set, i64_w, i32_w]
       rfl
      refine pu_ (i := 9) (N := some 15) (v := ?_) (a' := ?_) rfl rfl (by kernel_rfl) (fun _ _ _ h => h) (by rfl) ?_ ?_ ?_
      rotate_left
      · (intro w'; go_simp; with_reducible rfl)
      rotate_left
      · (simp only [put_s, List.set, i64_w, i32_w]; rfl)
      refine done_ (by kernel_rfl) ?_
      have c0 := H3.sv.c0
      have HSY := Lib.hid (H3.sync ht htd)
      clear H3 hHeld f1 f2 f3 hbe clb
      go_wp2_with (go_at_call 89; refine HSY.out.mono ?_; rintro e w4 ⟨rfl, o4, H4⟩)
      go_roundw
      case rel => exact ⟨1 + 1, _, o4, by omega, by go_num, H4, by show ([] : List (Int × List Int)).length ≤ _; simp, HF1.out⟩
      case measure => simp [intOf]
    ·
     have HF := Lib.hid hrem
     have HRR := Lib.hid HR
     clear hrem HR hpd hst hfu
     go_wp2_with fail
     go_ret
     exact HRR.out.end_ (by rw [HF.out]; rfl) (by rw [HF.out]; rfl)
end Go.Proofs.YtmofiicjaldmiaaGreatDoor.SvV
end
section
namespace Go.Proofs.YtmofiicjaldmiaaGreatDoor.SvW
open Go.RowKit Go.Shelf YtmofiicjaldmiaaGreatDoorW.PrintWords YtmofiicjaldmiaaGreatDoorW.PrintLast SvA SvB SvC SvD SvE SvF SvG SvH SvI SvJ SvK SvL SvM SvN SvO SvP SvQ SvR SvS SvT SvU SvV
set_option linter.unusedVariables false
set_option linter.unusedSimpArgs false
theorem info107 : (Tryz.prog.info? 107).map (fun i => (i.zero, i.size, i.bytes)) = some (some (.agg #[.int .i64 0, .string ⟨#[]⟩, .int .u32 0, .int .i64 0, .int .u32 0, .int .i64 0, .int .i64 0, .slice none 0 0]), 8, 88) := by kernel_rfl
theorem ow_cells {w : World} {own : Nat → Nat} {t g n c : Nat} {ps : List EP} (h : Ow enK 107 w own t ⟨some ⟨g, 0, none⟩, n, c⟩ ps) :
  own g = t ∧ ps.length = n ∧ ∃ cur, w.heap[g]? = some (.cells cur 107 (0, 0)) ∧ n ≤ c ∧ c ≤ maxLen ∧ cur.size = c * 8 ∧ ∀ (k : Nat) (p : EP) (i : Nat) (u : Value), ps[k]? = some p → p.cells[i]? = some u → cur[k * 8 + i]? = some u := by
 refine ⟨(ow_blk h g rfl).1, (ow_len h).1, ?_⟩
 obtain ⟨inner, ho⟩ := Kd.R_own h
 rcases ho.2 with ⟨hv, _⟩ | ⟨g', cap, cur, hv, hb, hh, hnc, hcm, hcs, _⟩
 · simp [Sl.enc] at hv
 ·
  simp only [Sl.enc, Value.slice.injEq, Option.some.injEq, Addr.mk.injEq] at hv
  obtain ⟨⟨rfl, _⟩, h2, rfl⟩ := hv
  refine ⟨cur, hh, (ow_len h).2.1, hcm, hcs, fun k p i u hp hu => ?_⟩
  have hk : k < n := by have := (List.getElem?_eq_some_iff.1 hp).1; rw [(ow_len h).1] at this; exact this
  obtain ⟨e0, e1, e2, e3, e4, e5, e6, e7⟩ := en_at (ow_len h).2.2 g rfl k hk p hp
  have cv : ∀ (o : Nat) (v : Value), w.cell? ⟨g, o, none⟩ = some v → cur[o]? = some v := fun o v hc => by
   unfold World.cell? at hc
   rw [hh] at hc
   exact hc
  have h8 : i < 8 := (List.getElem?_eq_some_iff.1 hu).1
  rcases (show i = 0 ∨ i = 1 ∨ i = 2 ∨ i = 3 ∨ i = 4 ∨ i = 5 ∨ i = 6 ∨ i = 7 by omega) with rfl | rfl | rfl | rfl | rfl | rfl | rfl | rfl <;> simp only [EP.cells, List.getElem?_cons_zero, List.getElem?_cons_succ, Option.some.injEq] at hu <;> subst hu
  · exact cv _ _ e0
  · exact cv _ _ e1
  · exact cv _ _ e2
  · exact cv _ _ e3
  · exact cv _ _ e4
  · exact cv _ _ e5
  · exact cv _ _ e6
  · exact cv _ _ e7
theorem ow_of_cells {w : World} {own : Nat → Nat} {t g n c : Nat} {ps : List EP} {cur : Array Value} (hg : own g = t) (hl : ps.length = n) (hh : w.heap[g]? = some (.cells cur 107 (0, 0))) (hn : n ≤ c) (hc : c ≤ maxLen) (hs : cur.size = c * 8) (h : ∀ (k : Nat) (p : EP) (i : Nat) (u : Value), ps[k]? = some p → p.cells[i]? = some u → cur[k * 8 + i]? = some u) :
  Ow enK 107 w own t ⟨some ⟨g, 0, none⟩, n, c⟩ ps := by
 subst hl
 have e8 : cur.toList.length = c * 8 := by rw [← hs]; exact Array.length_toList
 have hl8 : (cur.toList.take (ps.length * 8)).length = ps.length * 8 := by rw [List.length_take, e8]; omega
 refine ⟨fun k hk => by
  have : g = k := Option.some.inj hk
  rw [← this]
  exact hg, cur.toList.take (ps.length * 8), ⟨hl8, .inr ⟨g, c, cur, rfl, Nat.zero_le _, hh, hn, hc, hs, rfl⟩⟩, ⟨hl8, fun j p hp => ?_⟩⟩
 show List.take 8 (List.drop (j * 8) (cur.toList.take (ps.length * 8))) = p.cells
 have hj := (List.getElem?_eq_some_iff.1 hp).1
 apply List.ext_getElem?
 intro i
 by_cases hi : i < 8
 ·
  have hu : p.cells[i]? = some (p.cells[i]'(by simp [EP.cells]; exact hi)) := List.getElem?_eq_getElem _
  rw [hu, List.getElem?_take_of_lt hi, List.getElem?_drop, List.getElem?_take_of_lt (by omega), Array.getElem?_toList]
  exact h j p i _ hp hu
 · rw [List.getElem?_eq_none (by rw [List.length_take]; omega), List.getElem?_eq_none (by simp [EP.cells]; omega)]
def zeroE : List Value := [.int .i64 0, .string ⟨#[]⟩, .int .u32 0, .int .i64 0, .int .u32 0, .int .i64 0, .int .i64 0, .slice none 0 0]
theorem run_clear_en (w : World) (g o c : Nat) (hc : ∀ j, j < 8 → (w.cell? ⟨g, o + j, none⟩).isSome = true) (hf : ∀ j, j < 8 → w.frozen? ⟨g, o + j, none⟩ = false) (ty : TypeId) :
  (Builtin.clear_ #[100] ty #[.slice (some ⟨g, o, none⟩) 1 c]).run Tryz.prog w = .ok (.tuple #[]) (w.setCells g o zeroE) := by
 have hst := run_storeCells_cells (P := Tryz.prog) g o zeroE 0 w (by simpa [zeroE] using hc) (by simpa [zeroE] using hf) (by intro v hv; simp only [zeroE, List.mem_cons, List.not_mem_nil, or_false] at hv; rcases hv with rfl | rfl | rfl | rfl | rfl | rfl | rfl | rfl <;> rfl)
 simp only [Nat.add_zero] at hst
 have hz := Tryz.zeroValue107 w
 have hzc : (Builtin.zeroCells (Value.agg #[.int .i64 0, .string ⟨#[]⟩, .int .u32 0, .int .i64 0, .int .u32 0, .int .i64 0, .int .i64 0, .slice none 0 0]).cells 1).toList = zeroE := by kernel_rfl
 have hz2 : (zeroValue 107).run Tryz.prog w = .ok (Value.agg #[.int .i64 0, .string ⟨#[]⟩, .int .u32 0, .int .i64 0, .int .u32 0, .int .i64 0, .int .i64 0, .slice none 0 0]) w := hz
 simp [Builtin.clear_, run_underlying Tryz.underlying100, hz2, hzc, hst]
theorem flat_get : ∀ (l : List EP) (j i : Nat), i < 8 → (l.map EP.cells).flatten[j * 8 + i]? = (l[j]?).bind (fun p => p.cells[i]?)
 | [], j, i, _ => by simp
 | p :: l, 0, i, hi => by
  simp only [List.map_cons, List.flatten_cons, Nat.zero_mul, Nat.zero_add, List.getElem?_cons_zero, Option.bind_some]
  rw [List.getElem?_append_left (by simp [EP.cells]; exact hi)]
 | p :: l, j + 1, i, hi => by
  simp only [List.map_cons, List.flatten_cons, List.getElem?_cons_succ]
  have h8 : p.cells.length = 8 := rfl
  rw [List.getElem?_append_right (by rw [h8]; omega), h8, show (j + 1) * 8 + i - 8 = j * 8 + i from by omega]
  exact flat_get l j i hi
theorem flat_len (l : List EP) : (l.map EP.cells).flatten.length = l.length * 8 := by
 induction l with
 | nil => rfl
 | cons p l ih =>
  simp only [List.map_cons, List.flatten_cons, List.length_append, ih, List.length_cons]
  have h8 : p.cells.length = 8 := rfl
  omega
theorem row_get {cur cur' : Array Value} {vs : List Value} {o : Nat} (hs : o + vs.length ≤ cur.size) (h : cur'.toList = cur.toList.take o ++ vs ++ cur.toList.drop (o + vs.length)) (j : Nat) :
  cur'[j]? = if j < o then cur[j]? else if j < o + vs.length then vs[j - o]? else cur[j]? := by
 have e : cur.toList.length = cur.size := Array.length_toList
 rw [← Array.getElem?_toList, h]
 have ht : (cur.toList.take o).length = o := by rw [List.length_take]; omega
 by_cases h1 : j < o
 · rw [if_pos h1, List.getElem?_append_left (by rw [List.length_append, ht]; omega), List.getElem?_append_left (by rw [ht]; exact h1), List.getElem?_take_of_lt h1, Array.getElem?_toList]
 ·
  rw [if_neg h1]
  by_cases h2 : j < o + vs.length
  · rw [if_pos h2, List.getElem?_append_left (by rw [List.length_append, ht]; omega), List.getElem?_append_right (by rw [ht]; omega), ht]
  ·
   rw [if_neg h2, List.getElem?_append_right (by rw [List.length_append, ht]; omega), List.length_append, ht, List.getElem?_drop, Array.getElem?_toList]
   congr 1
   omega
theorem kp_cells {w : World} {own : Nat → Nat} {g t : Nat} (hg : own g = t) (o : Nat) (vs : List Value) : Kp (fun q => q = t) w own (w.setCells g o vs) own := by
 obtain ⟨h1, h2, h3, h4⟩ := setCells_same g vs o w
 exact ⟨h1, h2, h3, by rw [h4]; exact Nat.le_refl _, fun k hk hn => ⟨rfl, setCells_far vs o k (fun e => hn (by rw [e]; exact hg))⟩⟩
theorem del_row {w : World} {own : Nat → Nat} {t g k m c : Nat} {ps : List EP} (h : Ow enK 107 w own t ⟨some ⟨g, 0, none⟩, k + m + 1, c⟩ ps) :
  Ow enK 107 ((w.setCells g (k * 8) ((ps.drop (k + 1)).map EP.cells).flatten).setCells g ((k + m) * 8) zeroE) own t ⟨some ⟨g, 0, none⟩, k + m, c⟩ (ps.eraseIdx k) ∧
  Kp (fun q => q = t) w own ((w.setCells g (k * 8) ((ps.drop (k + 1)).map EP.cells).flatten).setCells g ((k + m) * 8) zeroE) own := by
 obtain ⟨hg, hl, cur, hh, hn, hc, hs, hcur⟩ := ow_cells h
 have hz : zeroE.length = 8 := rfl
 have hf : ((ps.drop (k + 1)).map EP.cells).flatten.length = m * 8 := by rw [flat_len, List.length_drop, hl]; omega
 obtain ⟨c1, g1, g2, g3⟩ := setCells_row ((ps.drop (k + 1)).map EP.cells).flatten (k * 8) w cur hh (by rw [hf, hs]; omega)
 obtain ⟨c2, g4, g5, g6⟩ := setCells_row zeroE ((k + m) * 8) _ c1 g1 (by rw [hz, g2, hs]; omega)
 refine ⟨ow_of_cells hg (by rw [List.length_eraseIdx_of_lt (by omega), hl]; omega) g4 (by omega) hc (by rw [g5, g2, hs]) ?_, (kp_cells hg _ _).trans (kp_cells hg _ _)⟩
 intro j p i u hp hu
 have hi : i < 8 := (List.getElem?_eq_some_iff.1 hu).1
 have hj : j < k + m := by have := (List.getElem?_eq_some_iff.1 hp).1; rw [List.length_eraseIdx_of_lt (by omega), hl] at this; omega
 rw [row_get (by rw [hz, g2, hs]; omega) g6, if_pos (by omega), row_get (by rw [hf, hs]; omega) g3]
 rw [List.getElem?_eraseIdx] at hp
 by_cases hjk : j < k
 ·
  rw [if_pos hjk] at hp
  rw [if_pos (by omega)]
  exact hcur j p i u hp hu
 ·
  rw [if_neg hjk] at hp
  rw [if_neg (by omega), if_pos (by rw [hf]; omega), show j * 8 + i - k * 8 = (j - k) * 8 + i from by omega, flat_get _ _ _ hi, List.getElem?_drop, show k + 1 + (j - k) = j + 1 from by omega, hp]
  exact hu
theorem run_del {w : World} {own : Nat → Nat} {t g k m c : Nat} {ps : List EP} (H : Ow enK 107 w own t ⟨some ⟨g, 0, none⟩, k + m + 1, c⟩ ps) (a : Addr) (c' : Nat) (ha : m = 0 ∨ a = ⟨g, (k + 1) * 8, none⟩) :
  (Builtin.append_ #[100, 100] 100 #[.slice (some ⟨g, 0, none⟩) k c, .slice (some a) m c']).run Tryz.prog w = .ok (.slice (some ⟨g, 0, none⟩) (k + m) c) (w.setCells g (k * 8) ((ps.drop (k + 1)).map EP.cells).flatten) := by
 obtain ⟨hg, hl, cur, hh, hn, hc, hs, hcur⟩ := ow_cells H
 obtain ⟨i0, hi, hzz⟩ := Option.map_eq_some_iff.1 info107
 simp only [Prod.mk.injEq] at hzz
 obtain ⟨hz0, hz1, hz2⟩ := hzz
 have hf : ((ps.drop (k + 1)).map EP.cells).flatten.length = m * 8 := by rw [flat_len, List.length_drop, hl]; omega
 have h := run_append_room_cells (P := Tryz.prog) (w := w) 100 100 107 i0 Tryz.underlying100 hi g 0 k c a m c' ((ps.drop (k + 1)).map EP.cells).flatten (by rw [hf, hz1]) (fun j u hu => ?_) (fun u hu => ?_) (by omega) (fun j hj => ?_) (fun j hj => ?_)
 ·
  rw [hz1, Nat.zero_add] at h
  exact h
 ·
  have hj := (List.getElem?_eq_some_iff.1 hu).1
  rw [hf] at hj
  rcases ha with rfl | rfl
  · omega
  ·
   rw [show j = (j / 8) * 8 + j % 8 from by omega, flat_get _ _ _ (by omega), List.getElem?_drop] at hu
   obtain ⟨p, hp, hq⟩ := Option.bind_eq_some_iff.1 hu
   have := hcur _ p _ u hp hq
   have e : (⟨g, (k + 1) * 8, none⟩ : Addr).add j = ⟨g, (k + 1) * 8 + j, none⟩ := by unfold Addr.add; split <;> simp_all
   rw [e, show (k + 1) * 8 + j = (k + 1 + j / 8) * 8 + j % 8 from by omega]
   simp [World.cell?, hh, this]
 ·
  obtain ⟨l, hl1, hl2⟩ := List.mem_flatten.1 hu
  obtain ⟨p, _, rfl⟩ := List.mem_map.1 hl1
  simp only [EP.cells, List.mem_cons, List.not_mem_nil, or_false] at hl2
  rcases hl2 with rfl | rfl | rfl | rfl | rfl | rfl | rfl | rfl <;> rfl
 ·
  rw [hf] at hj
  simp [World.cell?, hh, hz1, show k * 8 + j < cur.size by omega]
 · simp [World.frozen?, hh]
def DelP (w : World) (own : Nat → Nat) (t : Nat) (ps : List EP) (e : Ending) (w' : World) : Prop := ∃ s : Sl, e = .returned (.slice s.A s.n s.c) ∧ Ow enK 107 w' own t s ps ∧ Kp (fun q => q = t) w own w' own
set_option maxRecDepth 100000 in
set_option maxHeartbeats 1000000 in
theorem delete_ok (w : World) (own : Nat → Nat) (t g k m c : Nat) (ps : List EP) (H : Ow enK 107 w own t ⟨some ⟨g, 0, none⟩, k + m + 1, c⟩ ps) :
  Calls Tryz.prog 98 #[.slice (some ⟨g, 0, none⟩) (k + m + 1) c, .int .i64 (k : Int), .int .i64 ((k : Int) + 1)] w (DelP w own t (ps.eraseIdx k)) := by
 obtain ⟨hg, hl, cur, hh, hn, hc, hs, hcur⟩ := ow_cells H
 have hc40 : c ≤ 9223372036854775807 := hc
 have HD := Lib.hid (del_row (w := w.drew) (show Ow enK 107 w.drew own t ⟨some ⟨g, 0, none⟩, k + m + 1, c⟩ ps from H))
 have hkc : k ≤ c := by omega
 have hq1 : (0 : Int) ≤ (k : Int) + 1 := by omega
 have hq2 : (k : Int) ≤ (k : Int) + (m : Int) := by omega
 have hf : ((ps.drop (k + 1)).map EP.cells).flatten.length = m * 8 := by rw [flat_len, List.length_drop, hl]; omega
 have hdr : Ow enK 107 w.drew own t ⟨some ⟨g, 0, none⟩, k + m + 1, c⟩ ps := H
 have HRD := Lib.hid (fun (a : Addr) (c' : Nat) ha => run_del hdr a c' ha)
 obtain ⟨c1, g1, g2, g3⟩ := setCells_row ((ps.drop (k + 1)).map EP.cells).flatten (k * 8) w.drew cur hh (by rw [hf, hs]; omega)
 generalize hW1 : w.drew.setCells g (k * 8) ((ps.drop (k + 1)).map EP.cells).flatten = W1 at *
 have HCL := Lib.hid (fun c' ty => run_clear_en W1 g ((k + m) * 8) c' (fun j hj => by simp [World.cell?, g1, show (k + m) * 8 + j < c1.size by omega]) (fun j hj => by simp [World.frozen?, g1]) ty)
 have HK := Lib.hid HD.out
 clear hW1 g1 g2 g3 hh hcur hs hdr H HD
 by_cases hck : c = k + 1
 ·
  obtain rfl : m = 0 := by omega
  subst hck
  clear hn
  have hq3 : (k : Int) ≤ (k : Int) + 1 := by omega
  go_enter Tryz.func98, Tryz.ntmps98
  go_upto_region 5 with (fail)
  refine start_ (n := 8) (S := fun w' => True) (ds := []) #[false, false, false, false, false, false, false, false] (by kernel_rfl) rfl rfl trivial (fun hHeld => ?_)
  refine pu_ (i := 0) (N := some 20) (v := ?_) (a' := ?_) rfl rfl (by kernel_rfl) (fun _ _ _ h => h) (by rfl) ?_ ?_ ?_
  rotate_left
  · (intro w'; go_simp; with_reducible rfl)
  rotate_left
  · (simp only [put_s, List.set, i64_w, i32_w]; rfl)
  refine pu_ (i := 1) (N := some 21) (v := ?_) (a' := ?_) rfl rfl (by kernel_rfl) (fun _ _ _ h => h) (by rfl) ?_ ?_ ?_
  rotate_left
  · (intro w'; go_simp; with_reducible rfl)
  rotate_left
  · (simp only [put_s, List.set, i64_w, i32_w]; rfl)
  refine pu_ (i := 2) (N := some 22) (v := ?_) (a' := ?_) rfl rfl (by kernel_rfl) (fun _ _ _ h => h) (by rfl) ?_ ?_ ?_
  rotate_left
  · (intro w'; go_simp; with_reducible rfl)
  rotate_left
  · (simp only [put_s, List.set, i64_w, i32_w]; rfl)
  refine pu_ (i := 3) (N := some 23) (v := ?_) (a' := ?_) rfl rfl (by kernel_rfl) (fun _ _ _ h => h) (by rfl) ?_ ?_ ?_
  rotate_left
  · (intro w'; go_simp; with_reducible rfl)
  rotate_left
  · (simp only [put_s, List.set, i64_w, i32_w]; rfl)
  refine pu_ (i := 4) (N := some 24) (v := ?_) (a' := ?_) rfl rfl (by kernel_rfl) (fun _ _ _ h => h) (by rfl) ?_ ?_ ?_
  rotate_left
  · (intro w'; go_simp; with_reducible rfl)
  rotate_left
  · (simp only [put_s, List.set, i64_w, i32_w]; rfl)
  refine pu_ (i := 5) (N := some 25) (v := ?_) (a' := ?_) rfl rfl (by kernel_rfl) (fun _ _ _ h => h) (by rfl) ?_ ?_ ?_
  rotate_left
  · (intro w'; go_simp; with_reducible rfl)
  rotate_left
  · (simp only [put_s, List.set, i64_w, i32_w]; rfl)
  refine on_ (i := 6) (N := some 26) rfl rfl (by kernel_rfl) (by decide) (fun K hK => ?_)
  refine value_ (v := .slice (some ⟨g, 0, none⟩) (k + 0) (k + 1)) (w1 := W1) (by rfl) rfl (run_app (.tmp 22) (.tmp 25) 100 100 (by rfl) (by rfl) (by first | rfl | (simp [Act.eval]; done)) (by first | rfl | (simp [Act.eval]; done)) (HRD.out (⟨g, 0, none⟩) (0) (.inl rfl))) ?_
  refine hK.out _ _ trivial (fun hHeld => ?_)
  clear hK K
  refine norm_ (a' := ?_) ?_ ?_
  rotate_left
  ·
   show Act.put _ (some 26) _ = _
   simp only [put_s, List.set, i64_w, i32_w]
   rfl
  refine pu_ (i := 7) (N := some 0) (v := ?_) (a' := ?_) rfl rfl (by kernel_rfl) (fun _ _ _ h => h) (by rfl) ?_ ?_ ?_
  rotate_left
  · (intro w'; go_simp; with_reducible rfl)
  rotate_left
  · (simp only [put_s, List.set, i64_w, i32_w]; rfl)
  refine done_ (by kernel_rfl) ?_
  have hcl := HCL.out
  have HK2 := HK.out
  simp only [Nat.add_zero] at hcl HK2
  replace HK := Lib.hid HK2
  clear HK2
  go_wp2_with fail
  go_ret
  exact ⟨⟨some ⟨g, 0, none⟩, k, k + 1⟩, rfl, HK.out.1, (Kp.refl _ w own).drew.trans HK.out.2⟩
 ·
  have hck1 : k + 1 < c := by omega
  go_enter Tryz.func98, Tryz.ntmps98
  go_upto_region 5 with (fail)
  refine start_ (n := 8) (S := fun w' => True) (ds := []) #[false, false, false, false, false, false, false, false] (by kernel_rfl) rfl rfl trivial (fun hHeld => ?_)
  refine pu_ (i := 0) (N := some 20) (v := ?_) (a' := ?_) rfl rfl (by kernel_rfl) (fun _ _ _ h => h) (by rfl) ?_ ?_ ?_
  rotate_left
  · (intro w'; go_simp; with_reducible rfl)
  rotate_left
  · (simp only [put_s, List.set, i64_w, i32_w]; rfl)
  refine pu_ (i := 1) (N := some 21) (v := ?_) (a' := ?_) rfl rfl (by kernel_rfl) (fun _ _ _ h => h) (by rfl) ?_ ?_ ?_
  rotate_left
  · (intro w'; go_simp; with_reducible rfl)
  rotate_left
  · (simp only [put_s, List.set, i64_w, i32_w]; rfl)
  refine pu_ (i := 2) (N := some 22) (v := ?_) (a' := ?_) rfl rfl (by kernel_rfl) (fun _ _ _ h => h) (by rfl) ?_ ?_ ?_
  rotate_left
  · (intro w'; go_simp; with_reducible rfl)
  rotate_left
  · (simp only [put_s, List.set, i64_w, i32_w]; rfl)
  refine pu_ (i := 3) (N := some 23) (v := ?_) (a' := ?_) rfl rfl (by kernel_rfl) (fun _ _ _ h => h) (by rfl) ?_ ?_ ?_
  rotate_left
  · (intro w'; go_simp; with_reducible rfl)
  rotate_left
  · (simp only [put_s, List.set, i64_w, i32_w]; rfl)
  refine pu_ (i := 4) (N := some 24) (v := ?_) (a' := ?_) rfl rfl (by kernel_rfl) (fun _ _ _ h => h) (by rfl) ?_ ?_ ?_
  rotate_left
  · (intro w'; go_simp; with_reducible rfl)
  rotate_left
  · (simp only [put_s, List.set, i64_w, i32_w]; rfl)
  refine pu_ (i := 5) (N := some 25) (v := ?_) (a' := ?_) rfl rfl (by kernel_rfl) (fun _ _ _ h => h) (by rfl) ?_ ?_ ?_
  rotate_left
  · (intro w'; go_simp; with_reducible rfl)
  rotate_left
  · (simp only [put_s, List.set, i64_w, i32_w]; rfl)
  refine on_ (i := 6) (N := some 26) rfl rfl (by kernel_rfl) (by decide) (fun K hK => ?_)
  refine value_ (v := .slice (some ⟨g, 0, none⟩) (k + m) (c)) (w1 := W1) (by rfl) rfl (run_app (.tmp 22) (.tmp 25) 100 100 (by rfl) (by rfl) (by first | rfl | (simp [Act.eval]; done)) (by first | rfl | (simp [Act.eval]; done)) (HRD.out (⟨g, (k + 1) * 8, none⟩) (c - (k + 1)) (.inr rfl))) ?_
  refine hK.out _ _ trivial (fun hHeld => ?_)
  clear hK K
  refine norm_ (a' := ?_) ?_ ?_
  rotate_left
  ·
   show Act.put _ (some 26) _ = _
   simp only [put_s, List.set, i64_w, i32_w]
   rfl
  refine pu_ (i := 7) (N := some 0) (v := ?_) (a' := ?_) rfl rfl (by kernel_rfl) (fun _ _ _ h => h) (by rfl) ?_ ?_ ?_
  rotate_left
  · (intro w'; go_simp; with_reducible rfl)
  rotate_left
  · (simp only [put_s, List.set, i64_w, i32_w]; rfl)
  refine done_ (by kernel_rfl) ?_
  have hcl := HCL.out
  go_wp2_with fail
  go_ret
  exact ⟨⟨some ⟨g, 0, none⟩, k + m, c⟩, rfl, HK.out.1, (Kp.refl _ w own).drew.trans HK.out.2⟩
end Go.Proofs.YtmofiicjaldmiaaGreatDoor.SvW
end
section
namespace Go.Proofs.YtmofiicjaldmiaaGreatDoor.SvX
open Go.RowKit Go.Shelf YtmofiicjaldmiaaGreatDoorW.PrintWords YtmofiicjaldmiaaGreatDoorW.PrintLast SvA SvB SvC SvD SvE SvF SvG SvH SvI SvJ SvK SvL SvM SvN SvO SvP SvQ SvR SvS SvT SvU SvV SvW
set_option linter.unusedVariables false
set_option linter.unusedSimpArgs false
def SV.setE (S : SV) (i : Nat) (es : List EN) : SV := { S with ar := fun j => if j = i then { S.ar j with ents := es } else S.ar j }
abbrev k20 (t : Nat) : Nat → Prop := fun q => t ≤ q ∧ q < t + 20
theorem SvMem.ents {w w' : World} {own own' : Nat → Nat} {t g gs : Nat} {ga : Nat → Nat} {S : SV} (h : SvMem w own t g gs ga S) (i : Nat) (hi : i < 8) {z : Sl} {ps : List EP} {es : List EN} (hk : Kp (fun q => q = t + 4 + i ∨ q = t + 12 + i) w own w' own') (ht : t ≠ 0) (hg : own' (ga i) = t + 4 + i) (hb : Blk w' (ga i) #[.int .i64 ((S.ar i).ten : Int), .int .i64 ((S.ar i).frm : Int), .int .i64 ((S.ar i).sec : Int), .int .i64 ((S.ar i).heads : Int), z.enc] 102) (hs : Ow enK 107 w' own' (t + 12 + i) z ps) (he : Es w' own' ps es) : SvMem w' own' t g gs ga (SV.setE S i es) := by
 obtain ⟨a1, a2⟩ := h.bk.keep hk (by rw [h.og]; omega)
 refine ⟨a2.trans h.og, a1, h.st.keep hk (by omega) (by omega) (by omega) (by omega), fun j hj => ?_⟩
 unfold SV.setE
 dsimp only
 by_cases hji : j = i
 ·
  subst hji
  rw [if_pos rfl]
  exact ⟨z, ps, hg, hb, hs, he⟩
 ·
  rw [if_neg hji]
  exact (h.ar j hj).keep hk (by omega) (by omega) (by omega)
theorem map_erase {α β : Type} (f : α → β) : ∀ (l : List α) (k : Nat), (l.eraseIdx k).map f = (l.map f).eraseIdx k
 | [], _ => rfl
 | x :: l, 0 => rfl
 | x :: l, k + 1 => by simp only [List.eraseIdx_cons_succ, List.map_cons, map_erase f l k]
def strikeS (S : SV) (i k : Nat) (e : EN) : SV × Bool := match layH (S.ar i) e 0 S.b with
 | (b, false) => (SV.setB S b, false)
 | (b, true) => (SV.setE (SV.setB S b) i ((S.ar i).ents.eraseIdx k), true)
def StrikeP (w : World) (own : Nat → Nat) (t g gs : Nat) (ga : Nat → Nat) (n : Nat) (r : SV × Bool) (e : Ending) (w' : World) : Prop :=
  e = .returned (if r.2 then .nilIface else refusedV) ∧ BOk r.1.b ∧ r.1.b.n = n ∧ ∃ own', SvMem w' own' t g gs ga r.1 ∧ Kp (k20 t) w own w' own'
def StS (ga gb k : Nat) (z : Sl) (x : EP) (w : World) : Prop := w.cell? ⟨ga, 4, none⟩ = some (.slice z.A z.n z.c) ∧ w.cell? ⟨gb, k * 8, none⟩ = some (.int .i64 x.en.hd.ten) ∧ w.cell? ⟨gb, k * 8 + 1, none⟩ = some (.string x.en.hd.name) ∧ w.cell? ⟨gb, k * 8 + 2, none⟩ = some (.int .u32 x.en.hd.ver) ∧ w.cell? ⟨gb, k * 8 + 3, none⟩ = some (.int .i64 x.en.hd.size) ∧
    w.cell? ⟨gb, k * 8 + 4, none⟩ = some (.int .u32 x.en.hd.sum) ∧ w.cell? ⟨gb, k * 8 + 5, none⟩ = some (.int .i64 x.en.hd.first) ∧ w.cell? ⟨gb, k * 8 + 6, none⟩ = some (.int .i64 x.en.at_)
theorem stS {w : World} {own : Nat → Nat} {te ga gb n c k : Nat} {ps : List EP} {x : EP} {c0 c1 c2 c3 : Value} (hb : Blk w ga #[c0, c1, c2, c3, (Sl.mk (some ⟨gb, 0, none⟩) n c).enc] 102) (hs : Ow enK 107 w own te ⟨some ⟨gb, 0, none⟩, n, c⟩ ps) (hx : ps[k]? = some x) : StS ga gb k ⟨some ⟨gb, 0, none⟩, n, c⟩ x w := by
 have hk : k < n := by have := (List.getElem?_eq_some_iff.1 hx).1; rw [(ow_len hs).1] at this; exact this
 obtain ⟨e0, e1, e2, e3, e4, e5, e6, e7⟩ := en_at (ow_len hs).2.2 gb rfl k hk x hx
 exact ⟨Blk.cell (i := 4) hb rfl, e0, e1, e2, e3, e4, e5, e6⟩
set_option maxRecDepth 100000 in
set_option maxHeartbeats 1000000 in
theorem strike_ok (w : World) (own : Nat → Nat) (t g gs : Nat) (ga : Nat → Nat) (S : SV) (H : SvMem w own t g gs ga S) (ht : t ≠ 0) (i : Nat) (hi : i < 8) (hS : BOk S.b) (ha : (S.ar i).frm + (S.ar i).sec ≤ S.b.n) (k : Nat) (e : EN) (hk : (S.ar i).ents[k]? = some e) (hh : e.hd.ok) (hat : 0 ≤ e.at_ ∧ e.at_ < ((S.ar i).sec : Int)) (hp : S.b.pend.length < 2 ^ 39) (hl40 : (S.ar i).ents.length < 2 ^ 30) :
  Calls Tryz.prog 57 #[pt g, pt (ga i), .int .i64 (k : Int)] w (StrikeP w own t g gs ga S.b.n (strikeS S i k e)) := by
 obtain ⟨z, ps, hg, hb, hs, he⟩ := H.ar i hi
 have hpl : ps.length = (S.ar i).ents.length := by rw [← he.1, List.length_map]
 have hkl : k < ps.length := by rw [hpl]; exact (List.getElem?_eq_some_iff.1 hk).1
 obtain ⟨x, hx⟩ : ∃ x, ps[k]? = some x := ⟨_, List.getElem?_eq_getElem hkl⟩
 have hxe : x.en = e := by
  have h1 : (ps.map (·.en))[k]? = some x.en := by rw [List.getElem?_map, hx]; rfl
  rw [he.1, hk] at h1
  injection h1 with h1
  exact h1.symm
 subst hxe
 obtain ⟨gb, hgb⟩ := ow_head hs (by rw [← (ow_len hs).1]; omega)
 obtain ⟨A, n, c⟩ := z
 injection hgb with hgb _ _
 subst hgb
 have hn : ps.length = n := (ow_len hs).1
 obtain ⟨m, rfl⟩ : ∃ m, n = k + m + 1 := ⟨n - k - 1, by omega⟩
 have hS0 := stS hb hs hx
 have hkn : (k : Int) < ((k + m + 1 : Nat) : Int) := by omega
 have hkn2 : (k : Int) < (k : Int) + (m : Int) + 1 := by omega
 have hk0 : (0 : Int) ≤ (k : Int) := by omega
 have hk40 : k < 2 ^ 30 := by omega
 have HH := Lib.hid H
 have HB := Lib.hid hb
 have HO := Lib.hid hs
 have HE := Lib.hid he
 have HX := Lib.hid hx
 have HG := Lib.hid hg
 have hcm : c ≤ maxLen := by obtain ⟨_, _, cur, _, _, h, _⟩ := ow_cells hs; exact h
 have hnc : k + m + 1 ≤ c := (ow_len hs).2.1
 clear H hb hs he hx hg hpl hkl
 obtain ⟨⟨⟨x1, x2, x3, x4, x5, x6⟩, x7, xs⟩, ⟨x8, x9, x10⟩⟩ := x
 dsimp only at *
 obtain ⟨at_, rfl⟩ := Int.eq_ofNat_of_zero_le hat.1
 have hvn : (S.ar i).frm + at_ < S.b.n := by have := hat.2; omega
 by_cases hful : S.b.full = true
 ·
  go_enter Tryz.func57, Tryz.ntmps57
  go_upto_region 1 with (fail)
  refine start_ (n := 21) (S := StS (ga i) gb k ⟨some ⟨gb, 0, none⟩, k + m + 1, c⟩ ⟨⟨⟨x1, x2, x3, x4, x5, x6⟩, (at_ : Int), xs⟩, ⟨x8, x9, x10⟩⟩) (ds := []) #[false, false, false, false, false, false, false, false, false, false, false, false, false, false, false, false, false, false, false, false, false] (by kernel_rfl) rfl rfl hS0 (fun hHeld => ?_)
  refine pu_ (i := 0) (N := some 8) (v := ?_) (a' := ?_) rfl rfl (by kernel_rfl) (fun _ _ _ h => h) (by rfl) ?_ ?_ ?_
  rotate_left
  · (intro w'; go_simp; with_reducible rfl)
  rotate_left
  · (simp only [put_s, List.set, i64_w, i32_w]; rfl)
  refine pu_ (i := 1) (N := some 9) (v := ?_) (a' := ?_) rfl rfl (by kernel_rfl) (fun _ _ _ h => h) (by rfl) ?_ ?_ ?_
  rotate_left
  · (intro w'; go_simp; with_reducible rfl)
  rotate_left
  · (simp only [put_s, List.set, i64_w, i32_w]; rfl)
  refine pu_ (i := 2) (N := some 10) (v := ?_) (a' := ?_) rfl rfl (by kernel_rfl) (fun _ _ _ h => h) (by rfl) ?_ ?_ ?_
  rotate_left
  · (intro w'; go_simp; with_reducible rfl)
  rotate_left
  · (simp only [put_s, List.set, i64_w, i32_w]; rfl)
  refine pu_ (i := 3) (N := some 11) (v := ?_) (a' := ?_) rfl rfl (by kernel_rfl) (fun _ _ _ h => h) (by rfl) ?_ ?_ ?_
  rotate_left
  · (intro w'; go_simp; with_reducible rfl)
  rotate_left
  · (simp only [put_s, List.set, i64_w, i32_w]; rfl)
  refine pu_ (i := 4) (N := some 12) (v := ?_) (a' := ?_) rfl rfl (by kernel_rfl) (fun _ _ _ h => h) (by rfl) ?_ ?_ ?_
  rotate_left
  · (intro w'; go_simp; with_reducible rfl)
  rotate_left
  · (simp only [put_s, List.set, i64_w, i32_w]; rfl)
  refine tk_ (i := 5) (N := some 13) (v := ?_) (a' := ?_) rfl rfl (by kernel_rfl) (fun _ _ _ h => h) (by rfl) ?_ hHeld ?_ ?_
  rotate_left
  ·
   intro w' s0
   obtain ⟨q0, q1, q2, q3, q4, q5, q6, q7⟩ := s0; dsimp only at q0 q1 q2 q3 q4 q5 q6 q7
   go_simp
   with_reducible rfl
  rotate_left
  · (simp only [put_s, List.set, i64_w, i32_w]; rfl)
  refine pu_ (i := 6) (N := some 14) (v := ?_) (a' := ?_) rfl rfl (by kernel_rfl) (fun _ _ _ h => h) (by rfl) ?_ ?_ ?_
  rotate_left
  · (intro w'; go_simp; with_reducible rfl)
  rotate_left
  · (simp only [put_s, List.set, i64_w, i32_w]; rfl)
  refine pu_ (i := 7) (N := some 15) (v := ?_) (a' := ?_) rfl rfl (by kernel_rfl) (fun _ _ _ h => h) (by rfl) ?_ ?_ ?_
  rotate_left
  · (intro w'; go_simp; with_reducible rfl)
  rotate_left
  · (simp only [put_s, List.set, i64_w, i32_w]; rfl)
  refine pu_ (i := 8) (N := some 16) (v := ?_) (a' := ?_) rfl rfl (by kernel_rfl) (fun _ _ _ h => h) (by rfl) ?_ ?_ ?_
  rotate_left
  · (intro w'; go_simp; with_reducible rfl)
  rotate_left
  · (simp only [put_s, List.set, i64_w, i32_w]; rfl)
  refine tk_ (i := 9) (N := some 17) (v := ?_) (a' := ?_) rfl rfl (by kernel_rfl) (fun _ _ _ h => h) (by rfl) ?_ hHeld ?_ ?_
  rotate_left
  ·
   intro w' s0
   obtain ⟨q0, q1, q2, q3, q4, q5, q6, q7⟩ := s0; dsimp only at q0 q1 q2 q3 q4 q5 q6 q7
   go_simp
   with_reducible rfl
  rotate_left
  · (simp only [put_s, List.set, i64_w, i32_w]; rfl)
  refine pu_ (i := 10) (N := some 18) (v := ?_) (a' := ?_) rfl rfl (by kernel_rfl) (fun _ _ _ h => h) (by rfl) ?_ ?_ ?_
  rotate_left
  · (intro w'; go_simp; with_reducible rfl)
  rotate_left
  · (simp only [put_s, List.set, i64_w, i32_w]; rfl)
  refine pu_ (i := 11) (N := some 19) (v := ?_) (a' := ?_) rfl rfl (by kernel_rfl) (fun _ _ _ h => h) (by rfl) ?_ ?_ ?_
  rotate_left
  · (intro w'; go_simp; with_reducible rfl)
  rotate_left
  · (simp only [put_s, List.set, i64_w, i32_w]; rfl)
  refine pu_ (i := 12) (N := some 20) (v := ?_) (a' := ?_) rfl rfl (by kernel_rfl) (fun _ _ _ h => h) (by rfl) ?_ ?_ ?_
  rotate_left
  · (intro w'; go_simp; with_reducible rfl)
  rotate_left
  · (simp only [put_s, List.set, i64_w, i32_w]; rfl)
  refine tk_ (i := 13) (N := some 21) (v := ?_) (a' := ?_) rfl rfl (by kernel_rfl) (fun _ _ _ h => h) (by rfl) ?_ hHeld ?_ ?_
  rotate_left
  ·
   intro w' s0
   obtain ⟨q0, q1, q2, q3, q4, q5, q6, q7⟩ := s0; dsimp only at q0 q1 q2 q3 q4 q5 q6 q7
   go_simp
   with_reducible rfl
  rotate_left
  · (simp only [put_s, List.set, i64_w, i32_w]; rfl)
  refine pu_ (i := 14) (N := some 22) (v := ?_) (a' := ?_) rfl rfl (by kernel_rfl) (fun _ _ _ h => h) (by rfl) ?_ ?_ ?_
  rotate_left
  · (intro w'; go_simp; with_reducible rfl)
  rotate_left
  · (simp only [put_s, List.set, i64_w, i32_w]; rfl)
  refine pu_ (i := 15) (N := some 23) (v := ?_) (a' := ?_) rfl rfl (by kernel_rfl) (fun _ _ _ h => h) (by rfl) ?_ ?_ ?_
  rotate_left
  · (intro w'; go_simp; with_reducible rfl)
  rotate_left
  · (simp only [put_s, List.set, i64_w, i32_w]; rfl)
  refine pu_ (i := 16) (N := some 24) (v := ?_) (a' := ?_) rfl rfl (by kernel_rfl) (fun _ _ _ h => h) (by rfl) ?_ ?_ ?_
  rotate_left
  · (intro w'; go_simp; with_reducible rfl)
  rotate_left
  · (simp only [put_s, List.set, i64_w, i32_w]; rfl)
  refine tk_ (i := 17) (N := some 25) (v := ?_) (a' := ?_) rfl rfl (by kernel_rfl) (fun _ _ _ h => h) (by rfl) ?_ hHeld ?_ ?_
  rotate_left
  ·
   intro w' s0
   obtain ⟨q0, q1, q2, q3, q4, q5, q6, q7⟩ := s0; dsimp only at q0 q1 q2 q3 q4 q5 q6 q7
   go_simp
   with_reducible rfl
  rotate_left
  · (simp only [put_s, List.set, i64_w, i32_w]; rfl)
  refine on_ (i := 18) (N := some 26) rfl rfl (by kernel_rfl) (by decide) (fun K hK => ?_)
  refine goes_ Tryz.func97 (by kernel_rfl) rfl #[HD.enc ⟨x1, x2, x3, x4, x5, x6⟩, .int .u8 0] (by first | rfl | (simp [Act.eval]; done)) rfl rfl (by unfold HD.enc; first | rfl | (simp [Act.eval]; done)) ?_
  refine Calls.mono (bytes_ok _ ⟨x1, x2, x3, x4, x5, x6⟩ hh 0) ?_
  rintro e w2 ⟨D, rfl, f1, f2, f3⟩
  refine ⟨_, rfl, ?_⟩
  have HK1 := Lib.hid (((Kp.refl (fun _ => False) w own).drew).trans (Kp.below (ts := fun _ => False) (own := own) (w := w.drew) f3 0))
  have HB2 := Lib.hid (HB.out.keep HK1.out (fun q => q))
  have HO2 := Lib.hid (HO.out.keep HK1.out (fun q => q))
  refine hK.out _ _ (stS HB2.out.1 HO2.out HX.out) (fun hHeld => ?_)
  clear hK K
  have HH2 := Lib.hid (HH.out.keep HK1.out (fun q => q) (fun _ _ _ q => q))
  have HA1 := Lib.hid (ar_c1 (HH2.out.ar i hi))
  refine norm_ (a' := ?_) ?_ ?_
  rotate_left
  ·
   show Act.put _ (some 26) _ = _
   simp only [put_s, List.set, i64_w, i32_w]
   rfl
  refine on_ (i := 19) (N := some 27) rfl rfl (by kernel_rfl) (by decide) (fun K hK => ?_)
  refine goes_ Tryz.func95 (by kernel_rfl) rfl #[pt g, pt (ga i), .int .i64 (at_ : Int), .slice D 512 512] (by first | rfl | (simp [Act.eval]; done)) rfl rfl (by first | rfl | (simp [Act.eval]; done)) ?_
  refine Calls.mono (swrite_full w2 _ t gs S.b HH2.out.st g (ga i) (S.ar i).frm at_ HH2.out.c0 HA1.out.2.1 hvn hS.fit D 512 hful) ?_
  rintro e w3 ⟨rfl, kk, rfl⟩
  refine ⟨_, rfl, ?_⟩
  refine hK.out _ _ hHeld (fun hHeld => ?_)
  clear hK K
  refine norm_ (a' := ?_) ?_ ?_
  rotate_left
  ·
   show Act.put _ (some 27) _ = _
   simp only [put_s, List.set, i64_w, i32_w]
   rfl
  refine pu_ (i := 20) (N := some 7) (v := ?_) (a' := ?_) rfl rfl (by kernel_rfl) (fun _ _ _ h => h) (by rfl) ?_ ?_ ?_
  rotate_left
  · (intro w'; go_simp; with_reducible rfl)
  rotate_left
  · (simp only [put_s, List.set, i64_w, i32_w]; rfl)
  refine done_ (by kernel_rfl) ?_
  have HF := Lib.hid (HH2.out.drewN kk)
  have HKF := Lib.hid (show Kp (k20 t) w own (w2.drewN kk) _ from (HK1.out.mono (fun _ h => h.elim)).trans ⟨rfl, rfl, rfl, Nat.le_refl _, fun _ _ _ => ⟨rfl, rfl⟩⟩)
  have HST := Lib.hid (show strikeS S i k ⟨⟨x1, x2, x3, x4, x5, x6⟩, (at_ : Int), xs⟩ = (S, false) by unfold strikeS layH; rw [if_pos hful]; rfl)
  clear hHeld f1 f2 f3 hS0 hful
  unfold refusedV
  go_wp2_with fail
  go_ret
  unfold StrikeP
  rw [HST.out]
  exact ⟨rfl, hS, rfl, _, HF.out, HKF.out⟩
 ·
  go_enter Tryz.func57, Tryz.ntmps57
  go_upto_region 1 with (fail)
  have hful : S.b.full = false := by cases hb : S.b.full with | false => rfl | true => exact absurd hb hful
  refine start_ (n := 21) (S := StS (ga i) gb k ⟨some ⟨gb, 0, none⟩, k + m + 1, c⟩ ⟨⟨⟨x1, x2, x3, x4, x5, x6⟩, (at_ : Int), xs⟩, ⟨x8, x9, x10⟩⟩) (ds := []) #[false, false, false, false, false, false, false, false, false, false, false, false, false, false, false, false, false, false, false, false, false] (by kernel_rfl) rfl rfl hS0 (fun hHeld => ?_)
  refine pu_ (i := 0) (N := some 8) (v := ?_) (a' := ?_) rfl rfl (by kernel_rfl) (fun _ _ _ h => h) (by rfl) ?_ ?_ ?_
  rotate_left
  · (intro w'; go_simp; with_reducible rfl)
  rotate_left
  · (simp only [put_s, List.set, i64_w, i32_w]; rfl)
  refine pu_ (i := 1) (N := some 9) (v := ?_) (a' := ?_) rfl rfl (by kernel_rfl) (fun _ _ _ h => h) (by rfl) ?_ ?_ ?_
  rotate_left
  · (intro w'; go_simp; with_reducible rfl)
  rotate_left
  · (simp only [put_s, List.set, i64_w, i32_w]; rfl)
  refine pu_ (i := 2) (N := some 10) (v := ?_) (a' := ?_) rfl rfl (by kernel_rfl) (fun _ _ _ h => h) (by rfl) ?_ ?_ ?_
  rotate_left
  · (intro w'; go_simp; with_reducible rfl)
  rotate_left
  · (simp only [put_s, List.set, i64_w, i32_w]; rfl)
  refine pu_ (i := 3) (N := some 11) (v := ?_) (a' := ?_) rfl rfl (by kernel_rfl) (fun _ _ _ h => h) (by rfl) ?_ ?_ ?_
  rotate_left
  · (intro w'; go_simp; with_reducible rfl)
  rotate_left
  · (simp only [put_s, List.set, i64_w, i32_w]; rfl)
  refine pu_ (i := 4) (N := some 12) (v := ?_) (a' := ?_) rfl rfl (by kernel_rfl) (fun _ _ _ h => h) (by rfl) ?_ ?_ ?_
  rotate_left
  · (intro w'; go_simp; with_reducible rfl)
  rotate_left
  · (simp only [put_s, List.set, i64_w, i32_w]; rfl)
  refine tk_ (i := 5) (N := some 13) (v := ?_) (a' := ?_) rfl rfl (by kernel_rfl) (fun _ _ _ h => h) (by rfl) ?_ hHeld ?_ ?_
  rotate_left
  ·
   intro w' s0
   obtain ⟨q0, q1, q2, q3, q4, q5, q6, q7⟩ := s0; dsimp only at q0 q1 q2 q3 q4 q5 q6 q7
   go_simp
   with_reducible rfl
  rotate_left
  · (simp only [put_s, List.set, i64_w, i32_w]; rfl)
  refine pu_ (i := 6) (N := some 14) (v := ?_) (a' := ?_) rfl rfl (by kernel_rfl) (fun _ _ _ h => h) (by rfl) ?_ ?_ ?_
  rotate_left
  · (intro w'; go_simp; with_reducible rfl)
  rotate_left
  · (simp only [put_s, List.set, i64_w, i32_w]; rfl)
  refine pu_ (i := 7) (N := some 15) (v := ?_) (a' := ?_) rfl rfl (by kernel_rfl) (fun _ _ _ h => h) (by rfl) ?_ ?_ ?_
  rotate_left
  · (intro w'; go_simp; with_reducible rfl)
  rotate_left
  · (simp only [put_s, List.set, i64_w, i32_w]; rfl)
  refine pu_ (i := 8) (N := some 16) (v := ?_) (a' := ?_) rfl rfl (by kernel_rfl) (fun _ _ _ h => h) (by rfl) ?_ ?_ ?_
  rotate_left
  · (intro w'; go_simp; with_reducible rfl)
  rotate_left
  · (simp only [put_s, List.set, i64_w, i32_w]; rfl)
  refine tk_ (i := 9) (N := some 17) (v := ?_) (a' := ?_) rfl rfl (by kernel_rfl) (fun _ _ _ h => h) (by rfl) ?_ hHeld ?_ ?_
  rotate_left
  ·
   intro w' s0
   obtain ⟨q0, q1, q2, q3, q4, q5, q6, q7⟩ := s0; dsimp only at q0 q1 q2 q3 q4 q5 q6 q7
   go_simp
   with_reducible rfl
  rotate_left
  · (simp only [put_s, List.set, i64_w, i32_w]; rfl)
  refine pu_ (i := 10) (N := some 18) (v := ?_) (a' := ?_) rfl rfl (by kernel_rfl) (fun _ _ _ h => h) (by rfl) ?_ ?_ ?_
  rotate_left
  · (intro w'; go_simp; with_reducible rfl)
  rotate_left
  · (simp only [put_s, List.set, i64_w, i32_w]; rfl)
  refine pu_ (i := 11) (N := some 19) (v := ?_) (a' := ?_) rfl rfl (by kernel_rfl) (fun _ _ _ h => h) (by rfl) ?_ ?_ ?_
  rotate_left
  · (intro w'; go_simp; with_reducible rfl)
  rotate_left
  · (simp only [put_s, List.set, i64_w, i32_w]; rfl)
  refine pu_ (i := 12) (N := some 20) (v := ?_) (a' := ?_) rfl rfl (by kernel_rfl) (fun _ _ _ h => h) (by rfl) ?_ ?_ ?_
  rotate_left
  · (intro w'; go_simp; with_reducible rfl)
  rotate_left
  · (simp only [put_s, List.set, i64_w, i32_w]; rfl)
  refine tk_ (i := 13) (N := some 21) (v := ?_) (a' := ?_) rfl rfl (by kernel_rfl) (fun _ _ _ h => h) (by rfl) ?_ hHeld ?_ ?_
  rotate_left
  ·
   intro w' s0
   obtain ⟨q0, q1, q2, q3, q4, q5, q6, q7⟩ := s0; dsimp only at q0 q1 q2 q3 q4 q5 q6 q7
   go_simp
   with_reducible rfl
  rotate_left
  · (simp only [put_s, List.set, i64_w, i32_w]; rfl)
  refine pu_ (i := 14) (N := some 22) (v := ?_) (a' := ?_) rfl rfl (by kernel_rfl) (fun _ _ _ h => h) (by rfl) ?_ ?_ ?_
  rotate_left
  · (intro w'; go_simp; with_reducible rfl)
  rotate_left
  · (simp only [put_s, List.set, i64_w, i32_w]; rfl)
  refine pu_ (i := 15) (N := some 23) (v := ?_) (a' := ?_) rfl rfl (by kernel_rfl) (fun _ _ _ h => h) (by rfl) ?_ ?_ ?_
  rotate_left
  · (intro w'; go_simp; with_reducible rfl)
  rotate_left
  · (simp only [put_s, List.set, i64_w, i32_w]; rfl)
  refine pu_ (i := 16) (N := some 24) (v := ?_) (a' := ?_) rfl rfl (by kernel_rfl) (fun _ _ _ h => h) (by rfl) ?_ ?_ ?_
  rotate_left
  · (intro w'; go_simp; with_reducible rfl)
  rotate_left
  · (simp only [put_s, List.set, i64_w, i32_w]; rfl)
  refine tk_ (i := 17) (N := some 25) (v := ?_) (a' := ?_) rfl rfl (by kernel_rfl) (fun _ _ _ h => h) (by rfl) ?_ hHeld ?_ ?_
  rotate_left
  ·
   intro w' s0
   obtain ⟨q0, q1, q2, q3, q4, q5, q6, q7⟩ := s0; dsimp only at q0 q1 q2 q3 q4 q5 q6 q7
   go_simp
   with_reducible rfl
  rotate_left
  · (simp only [put_s, List.set, i64_w, i32_w]; rfl)
  refine on_ (i := 18) (N := some 26) rfl rfl (by kernel_rfl) (by decide) (fun K hK => ?_)
  refine goes_ Tryz.func97 (by kernel_rfl) rfl #[HD.enc ⟨x1, x2, x3, x4, x5, x6⟩, .int .u8 0] (by first | rfl | (simp [Act.eval]; done)) rfl rfl (by unfold HD.enc; first | rfl | (simp [Act.eval]; done)) ?_
  refine Calls.mono (bytes_ok _ ⟨x1, x2, x3, x4, x5, x6⟩ hh 0) ?_
  rintro e w2 ⟨D, rfl, f1, f2, f3⟩
  refine ⟨_, rfl, ?_⟩
  have HK1 := Lib.hid (((Kp.refl (fun _ => False) w own).drew).trans (Kp.below (ts := fun _ => False) (own := own) (w := w.drew) f3 0))
  have HB2 := Lib.hid (HB.out.keep HK1.out (fun q => q))
  have HO2 := Lib.hid (HO.out.keep HK1.out (fun q => q))
  refine hK.out _ _ (stS HB2.out.1 HO2.out HX.out) (fun hHeld => ?_)
  clear hK K
  have HH2 := Lib.hid (HH.out.keep HK1.out (fun q => q) (fun _ _ _ q => q))
  have HA1 := Lib.hid (ar_c1 (HH2.out.ar i hi))
  refine norm_ (a' := ?_) ?_ ?_
  rotate_left
  ·
   show Act.put _ (some 26) _ = _
   simp only [put_s, List.set, i64_w, i32_w]
   rfl
  refine on_ (i := 19) (N := some 27) rfl rfl (by kernel_rfl) (by decide) (fun K hK => ?_)
  refine goes_ Tryz.func95 (by kernel_rfl) rfl #[pt g, pt (ga i), .int .i64 (at_ : Int), .slice D 512 512] (by first | rfl | (simp [Act.eval]; done)) rfl rfl (by first | rfl | (simp [Act.eval]; done)) ?_
  refine Calls.mono (swrite_ok w2 _ t gs S.b HH2.out.st g (ga i) (S.ar i).frm at_ HH2.out.c0 HA1.out.2.1 hvn hS.fit D 512 (headS ⟨x1, x2, x3, x4, x5, x6⟩ 0) ht 0 (by omega) ⟨f1, Nat.le_refl _, fun a ha hn => tagged_new (f2 a ha)⟩ hful) ?_
  rintro e w3 ⟨rfl, o3, g1, g2⟩
  refine ⟨_, rfl, ?_⟩
  have hk3 : Kp (k3 t) w2 _ w3 o3 := g2.mono (fun q h => by rcases h with h | h; exact .inl h; exact .inr (.inr h))
  have HB3 := Lib.hid (HB2.out.1.keep hk3 (by rw [HB2.out.2, HG.out]; rintro (h | h | h) <;> omega))
  have HO3 := Lib.hid (HO2.out.keep hk3 (by rintro (h | h | h) <;> omega))
  refine hK.out _ _ (stS HB3.out.1 HO3.out HX.out) (fun hHeld => ?_)
  clear hK K
  refine norm_ (a' := ?_) ?_ ?_
  rotate_left
  ·
   show Act.put _ (some 27) _ = _
   simp only [put_s, List.set, i64_w, i32_w]
   rfl
  refine pu_ (i := 20) (N := some 7) (v := ?_) (a' := ?_) rfl rfl (by kernel_rfl) (fun _ _ _ h => h) (by rfl) ?_ ?_ ?_
  rotate_left
  · (intro w'; go_simp; with_reducible rfl)
  rotate_left
  · (simp only [put_s, List.set, i64_w, i32_w]; rfl)
  refine done_ (by kernel_rfl) ?_
  have HM3 := Lib.hid (SvMem.store HH2.out ht g1 hk3)
  have hok3 := BOk.put hS hvn (headS_ok hh (f := 0) (by omega)).1 (headS_ok hh (f := 0) (by omega)).2 (by omega)
  have c0 := HM3.out.c0
  have HSY := Lib.hid (sync_ok w3 o3 t gs _ g1 hok3.fit.hz hok3.fit.hp ht hok3.ok)
  have HOK := Lib.hid hok3
  have HK3 := Lib.hid hk3
  have HST := Lib.hid (show strikeS S i k ⟨⟨x1, x2, x3, x4, x5, x6⟩, (at_ : Int), xs⟩ = (SV.setE (SV.setB S (BS.sync (S.b.put (((S.ar i).frm + at_ : Nat) : Int) (headS ⟨x1, x2, x3, x4, x5, x6⟩ 0)))) i ((S.ar i).ents.eraseIdx k), true) by unfold strikeS layH; rw [if_neg (by rw [hful]; decide)]; rfl)
  clear hHeld f1 f2 f3 hS0 hful g1 g2 hk3 hok3
  generalize hbb : S.b.put (((S.ar i).frm + at_ : Nat) : Int) (headS ⟨x1, x2, x3, x4, x5, x6⟩ 0) = b1 at *
  have HN := Lib.hid (show b1.n = S.b.n by rw [← hbb]; rfl)
  clear hbb
  go_upto_region 5 with (go_at_call 89; refine HSY.out.mono ?_; rintro e w4 ⟨rfl, o4, g1, g2⟩)
  have HM4 := Lib.hid (SvMem.store HM3.out ht g1 g2)
  have HB4 := Lib.hid (HB3.out.1.keep g2 (by rw [HB3.out.2, HB2.out.2, HG.out]; rintro (h | h | h) <;> omega))
  have HO4 := Lib.hid (HO3.out.keep g2 (by rintro (h | h | h) <;> omega))
  have HE4 := Lib.hid (((HE.out.keep HK1.out (fun q => q)).keep HK3.out (by rintro (h | h | h) <;> omega)).keep g2 (by rintro (h | h | h) <;> omega))
  have HG4 := Lib.hid (show o4 (ga i) = t + 4 + i by rw [HB4.out.2, HB3.out.2, HB2.out.2, HG.out])
  have HKK := Lib.hid (show Kp (k3 t) w own w4 o4 from ((HK1.out.mono (fun _ h => h.elim)).trans HK3.out).trans g2)
  have d4 : w4.cell? ⟨ga i, 4, none⟩ = some (.slice (some ⟨gb, 0, none⟩) (k + m + 1) c) := Blk.cell (i := 4) HB4.out.1 rfl
  have HDE := Lib.hid (delete_ok w4 o4 (t + 12 + i) gb k m c ps HO4.out)
  clear g1 g2
  go_wp2_with (go_at_call 98; refine HDE.out.mono ?_; rintro e w5 ⟨s, rfl, g3, g4⟩; have HB5 := Lib.hid (HB4.out.1.keep g4 (by rw [HG4.out]; omega)); have d5 : w5.cell? ⟨ga i, 4, none⟩ = some (.slice (some ⟨gb, 0, none⟩) (k + m + 1) c) := Blk.cell (i := 4) HB5.out.1 rfl; have z5 : w5.frozen? ⟨ga i, 4, none⟩ = false := Blk.frozen HB5.out.1; have G3 := Lib.hid g3; have G4 := Lib.hid g4; clear g3 g4 d4)
  go_ret
  have hkA : Kp (fun q => q = t + 4 + i) w5 o4 (w5.setCell ⟨ga i, 4, none⟩ (.slice s.A s.n s.c)) o4 := (Kp.refl _ w5 o4).set _ _ (fun k hk hn e => hn (by rw [e]; exact HG4.out))
  have hkB : Kp (fun q => q = t + 4 + i ∨ q = t + 12 + i) w4 o4 (w5.setCell ⟨ga i, 4, none⟩ (.slice s.A s.n s.c)) o4 := (G4.out.mono (fun q h => .inr h)).trans (hkA.mono (fun q h => .inl h))
  unfold StrikeP
  rw [HST.out]
  refine ⟨rfl, BOk.sync HOK.out, (sync_n HOK.out).trans HN.out, o4, SvMem.ents HM4.out i hi (ps := ps.eraseIdx k) hkB ht HG4.out (Blk.set (i := 4) HB5.out.1 _) (G3.out.keep hkA (by omega)) ⟨?_, fun p hp => ((HE4.out.keep hkB (by omega)).2 p (List.mem_of_mem_eraseIdx hp))⟩, (HKK.out.mono (fun q h => ⟨by rcases h with h | h | h <;> omega, by rcases h with h | h | h <;> omega⟩)).trans (hkB.mono (fun q h => ⟨by rcases h with h | h <;> omega, by rcases h with h | h <;> omega⟩))⟩
  rw [← HE.out.1, map_erase]
end Go.Proofs.YtmofiicjaldmiaaGreatDoor.SvX
end
section
namespace Go.Proofs.YtmofiicjaldmiaaGreatDoor.SvY
open Go.RowKit Go.Shelf YtmofiicjaldmiaaGreatDoorW.PrintWords YtmofiicjaldmiaaGreatDoorW.PrintLast SvA SvB SvC SvD SvE SvF SvG SvH SvI SvJ SvK SvL SvM SvN SvO SvP SvQ SvR SvS SvT SvU SvV SvW SvX
set_option linter.unusedVariables false
set_option linter.unusedSimpArgs false
theorem code_nil (w : World) : Calls Tryz.prog 47 #[.nilIface] w fun e w' => e = .returned (.int .i64 0) ∧ Below w.heap.size w w' := by
 go_enter Tryz.func47, Tryz.ntmps47
 go_wp2_with fail
 go_ret
 exact ⟨rfl, ba _⟩
theorem done_nil (w : World) (own : Nat → Nat) (t g gs : Nat) (ga : Nat → Nat) (S : SV) (H : SvMem w own t g gs ga S) (ht : t ≠ 0) (hd : S.dead = false) : Calls Tryz.prog 58 #[pt g, .nilIface] w fun e w' => e = .returned (.int .i64 0) ∧ ∃ own', SvMem w' own' t g gs ga S ∧ Kp (k20 t) w own w' own' := by
 have cd := H.cd
 rw [hd] at cd
 have zd : w.frozen? ⟨g, 9, none⟩ = false := Blk.frozen H.bk
 have hk : Kp (fun q => q = t + 3) w own (w.setCell ⟨g, 9, none⟩ (.bool false)) own := (Kp.refl _ w own).set _ _ (fun k hk hn e => hn (by rw [e]; exact H.og))
 have hb : Blk (w.setCell ⟨g, 9, none⟩ (.bool false)) g (svCells gs ga S.dead) 93 := by rw [hd]; have := Blk.set (i := 9) H.bk (.bool false); rw [hd] at this; exact this
 have HM := Lib.hid (show SvMem (w.setCell ⟨g, 9, none⟩ (.bool false)) own t g gs ga S from ⟨H.og, hb, H.st.keep hk (by omega) (by omega) (by omega) (by omega), fun i hi => (H.ar i hi).keep hk (by omega) (by omega) (by omega)⟩)
 have HK := Lib.hid hk
 clear hk hb H hd
 go_enter Tryz.func58, Tryz.ntmps58
 go_wp2_with (go_at_call 47; refine (code_nil _).mono ?_; rintro e w2 ⟨rfl, hb⟩)
 go_ret
 exact ⟨rfl, _, HM.out.below hb, (HK.out.mono (fun q h => ⟨by omega, by omega⟩)).trans (Kp.below hb 0)⟩
structure AOk (S : SV) (i : Nat) : Prop where
 fs : (S.ar i).frm + (S.ar i).sec ≤ S.b.n
 s16 : (S.ar i).sec < 65536
 hs : (S.ar i).heads ≤ (S.ar i).sec
 el : (S.ar i).ents.length < 2 ^ 30
 eo : ∀ e ∈ (S.ar i).ents, e.hd.ok ∧ (0 ≤ e.at_ ∧ e.at_ < ((S.ar i).sec : Int)) ∧ (∀ n ∈ e.secs, 0 ≤ n ∧ n < ((S.ar i).sec : Int)) ∧ e.secs.length < 65536
def usedS (es : List EN) : Nat := (es.map (fun e => 1 + e.secs.length)).sum
theorem usedS_snoc (es : List EN) (e : EN) : usedS (es ++ [e]) = usedS es + (1 + e.secs.length) := by simp [usedS]
theorem usedS_le (es : List EN) (h : ∀ e ∈ es, e.secs.length < 65536) : usedS es ≤ es.length * 65536 := by
 unfold usedS
 induction es with
 | nil => simp
 | cons e es ih =>
  have h1 := ih (fun x hx => h x (List.mem_cons_of_mem _ hx))
  have h2 := h e List.mem_cons_self
  simp only [List.map_cons, List.sum_cons, List.length_cons]
  omega
theorem used_take_le (es : List EN) (n : Nat) (hn : es.length ≤ n) (h : ∀ e ∈ es, e.secs.length < 65536) (k : Nat) : usedS (es.take k) ≤ n * 65536 := by
 have h1 := usedS_le (es.take k) (fun e he => h e (List.mem_of_mem_take he))
 have h2 : (es.take k).length ≤ n := by rw [List.length_take]; omega
 exact Nat.le_trans h1 (Nat.mul_le_mul h2 (Nat.le_refl _))
set_option maxRecDepth 100000 in
set_option maxHeartbeats 1000000 in
theorem used_yes (w : World) (own : Nat → Nat) (t g gs : Nat) (ga : Nat → Nat) (S : SV) (H : SvMem w own t g gs ga S) (i : Nat) (hi : i < 8) (hd : S.dead = false) (hA : AOk S i) : Calls Tryz.prog 20 #[pt g, .int .i64 ((i : Int) + 1)] w fun e w' => e = .returned (.tuple #[.int .i64 (usedS (S.ar i).ents : Int), .int .i64 0]) ∧ Below w.heap.size w w' := by
 have HC := Lib.hid (area_yes w own t g gs ga S H i hi hd)
 obtain ⟨z, ps, hg, hb, hs, he⟩ := H.ar i hi
 have c4 : w.cell? ⟨ga i, 4, none⟩ = some (.slice z.A z.n z.c) := Blk.cell (i := 4) hb rfl
 have hpl : ps.length = z.n := (ow_len hs).1
 have hel : (S.ar i).ents.length = z.n := by rw [← he.1, List.length_map]; exact hpl
 have hn30 : z.n < 2 ^ 30 := by rw [← hel]; exact hA.el
 have HL := Lib.hid (fun k => used_take_le (S.ar i).ents z.n (by omega) (fun e h => (hA.eo e h).2.2.2) k)
 have HO := Lib.hid hs
 have HE := Lib.hid he
 have HH := Lib.hid (fun (h : 0 < z.n) => ow_head hs h)
 have HEO := Lib.hid hA.eo
 have HP := Lib.hid hpl
 have HQ := Lib.hid hel
 clear hs he hb hg H hA hd hpl hel
 obtain ⟨A, n, c⟩ := z
 dsimp only at *
 go_enter Tryz.func20, Tryz.ntmps20
 go_wp2_with (go_at_call 49; refine HC.out.mono ?_; rintro e w' ⟨rfl, rfl⟩)
 go_loopw [25, 8, 10] (fun v u _ wr => ∃ k : Nat, k ≤ n ∧ v = .int .i64 (k : Int) ∧ u = .int .i64 (usedS ((S.ar i).ents.take k) : Int) ∧ Below w.heap.size w wr) (fun v _ _ _ => n - (intOf v).toNat)
 case atStart => exact ⟨0, by omega, rfl, rfl, Below.refl _ _⟩
 case round =>
  obtain ⟨k, hk, rfl, rfl, hb⟩ := hrel
  by_cases hlt : k < n
  ·
   have dl : decide ((k : Int) < (n : Int)) = true := by simp; omega
   have hkn : (k : Int) < (n : Int) := by omega
   have hpl := HP.out
   obtain ⟨gb, hz⟩ := HH.out (by omega)
   injection hz with hA _ _
   subst hA
   obtain ⟨x, hx⟩ : ∃ x, ps[k]? = some x := ⟨_, List.getElem?_eq_getElem (by omega)⟩
   obtain ⟨e0, e1, e2, e3, e4, e5, e6, e7⟩ := en_at (Kd.C_below (ow_len HO.out).2.2 hb) gb rfl k hlt x hx
   have hxe : (S.ar i).ents[k]? = some x.en := by rw [← HE.out.1, List.getElem?_map, hx]; rfl
   have hsn : x.sl.n = x.en.secs.length := (HE.out.2 x (List.mem_of_getElem? hx)).1.1.symm
   have hs16 := (HEO.out x.en (List.mem_of_getElem? hxe)).2.2.2
   have HU := Lib.hid (show usedS ((S.ar i).ents.take (k + 1)) = usedS ((S.ar i).ents.take k) + (1 + x.sl.n) by
    have : (S.ar i).ents.take (k + 1) = (S.ar i).ents.take k ++ [x.en] := by
     rw [List.take_succ_eq_append_getElem (List.getElem?_eq_some_iff.1 hxe).1, (List.getElem?_eq_some_iff.1 hxe).2]
    rw [this, usedS_snoc, hsn])
   have hub := HL.out k
   have hs16' : x.sl.n < 65536 := by rw [hsn]; exact hs16
   clear hx hxe hsn hs16 hpl
   obtain ⟨⟨⟨x1, x2, x3, x4, x5, x6⟩, x7, xs⟩, ⟨x8, x9, x10⟩⟩ := x
   dsimp only at *
   generalize hus : usedS ((S.ar i).ents.take k) = u at *
   have HB := Lib.hid (show ∀ o, Below w.heap.size w (wr.alloc o) from fun o => hb.alloc hb.size o)
   clear hb hus
   go_wp2_with fail
   go_roundw
   case rel => exact ⟨k + 1, by omega, by go_num, by rw [HU.out]; first | rfl | (congr 1; omega) | (simp; omega), HB.out _⟩
   case measure => simp [intOf]; omega
  ·
   obtain rfl : k = n := by omega
   have dl : decide ((k : Int) < (k : Int)) = false := by simp
   have hel := HQ.out
   have e1 : (S.ar i).ents.take k = (S.ar i).ents := List.take_of_length_le (by omega)
   rw [e1]
   clear hel e1
   go_wp2_with fail
   go_ret2
   exact ⟨rfl, hb⟩
end Go.Proofs.YtmofiicjaldmiaaGreatDoor.SvY
end
section
namespace Go.Proofs.YtmofiicjaldmiaaGreatDoor.SvZ
open Go.RowKit Go.Shelf YtmofiicjaldmiaaGreatDoorW.PrintWords YtmofiicjaldmiaaGreatDoorW.PrintLast SvA SvB SvC SvD SvE SvF SvG SvH SvI SvJ SvK SvL SvM SvN SvO SvP SvQ SvR SvS SvT SvU SvV SvW SvX SvY
set_option linter.unusedVariables false
set_option linter.unusedSimpArgs false
def GetP (w : World) (data : List Int) (e : Ending) (w' : World) : Prop := ∃ (z : Sl) (o : Nat → Nat), e = .returned (.tuple #[z.enc, .int .i64 0]) ∧ Ow u8K 5 w' o 2 z data ∧ (∀ k, k < w.heap.size → o k = 0) ∧ Below w.heap.size w w'
theorem get_none (w : World) (own : Nat → Nat) (t g gs : Nat) (ga : Nat → Nat) (S : SV) (H : SvMem w own t g gs ga S) (i : Nat) (hi : i < 8) (name : ByteArray) (hs : name.size < 2 ^ 62) (hd : S.dead = false) (hok : nameOk name = true) (hl : (S.ar i).ents.length < 2 ^ 40) (hf : findI (fun e => e.hd.name == name) (S.ar i).ents < 0) :
  Calls Tryz.prog 32 #[pt g, .int .i64 ((i : Int) + 1), .string name] w fun e w' => e = .returned (.tuple #[.slice none 0 0, .int .i64 111]) ∧ Below w.heap.size w w' := by
 have HC := Lib.hid (named_yes w own t g gs ga S H i hi name hs hd hok hl)
 have hb2 : decide (findI (fun e : EN => e.hd.name == name) (S.ar i).ents < 0) = true := by simp; exact hf
 generalize findI (fun e : EN => e.hd.name == name) (S.ar i).ents = r at *
 clear H hok hd
 go_enter Tryz.func32, Tryz.ntmps32
 go_wp2_with (go_at_call 50; refine HC.out.mono ?_; rintro e w' ⟨rfl, hb⟩)
 go_ret2
 exact ⟨rfl, hb⟩
set_option maxRecDepth 100000 in
set_option maxHeartbeats 1000000 in
theorem get_yes (w : World) (own : Nat → Nat) (t g gs : Nat) (ga : Nat → Nat) (S : SV) (H : SvMem w own t g gs ga S) (i : Nat) (hi : i < 8) (hS : BOk S.b) (ha : (S.ar i).frm + (S.ar i).sec ≤ S.b.n) (name : ByteArray) (hs : name.size < 2 ^ 62) (hd : S.dead = false) (hok : nameOk name = true) (hl : (S.ar i).ents.length < 2 ^ 30) (k : Nat) (hf : findI (fun e => e.hd.name == name) (S.ar i).ents = k) (e : EN) (he : (S.ar i).ents[k]? = some e) (hh : e.hd.ok) :
  Calls Tryz.prog 32 #[pt g, .int .i64 ((i : Int) + 1), .string name] w (GetP w (followS S.b (S.ar i) e.hd).2.1) := by
 have hcn := named_yes w own t g gs ga S H i hi name hs hd hok (by omega)
 rw [hf] at hcn
 have HC := Lib.hid hcn
 have HH := Lib.hid H
 obtain ⟨z, ps, hg, hb, hz, hes⟩ := H.ar i hi
 have hpl : ps.length = (S.ar i).ents.length := by rw [← hes.1, List.length_map]
 have hkl : k < ps.length := by rw [hpl]; exact (List.getElem?_eq_some_iff.1 he).1
 obtain ⟨x, hx⟩ : ∃ x, ps[k]? = some x := ⟨_, List.getElem?_eq_getElem hkl⟩
 have hxe : x.en = e := by
  have h1 : (ps.map (·.en))[k]? = some x.en := by rw [List.getElem?_map, hx]; rfl
  rw [hes.1, he] at h1
  injection h1 with h1
  exact h1.symm
 subst hxe
 obtain ⟨gb, hgb⟩ := ow_head hz (by rw [← (ow_len hz).1]; omega)
 obtain ⟨A, n, c⟩ := z
 injection hgb with hgb _ _
 subst hgb
 have hn : ps.length = n := (ow_len hz).1
 have hkn : (k : Int) < (n : Int) := by omega
 have hk0 : (0 : Int) ≤ (k : Int) := by omega
 have hk40 : k < 2 ^ 30 := by omega
 have HS0 := Lib.hid (fun (W : World) (h : Below w.heap.size w W) => stS ((hb.below h)) (hz.keep (Kp.below (ts := fun _ => False) h 0) (fun q => q)) hx)
 have HF := Lib.hid (fun (W : World) (h : Below w.heap.size w W) => follow_ok W _ t g gs ga S i hi ((HH.out.below h).sc i hi) hS ha x.en.hd hh)
 clear hcn H hb hz hes hx he hg hpl hkl hf hn hok hd hl
 obtain ⟨⟨⟨x1, x2, x3, x4, x5, x6⟩, x7, xs⟩, ⟨x8, x9, x10⟩⟩ := x
 dsimp only at *
 generalize hdt : (followS S.b (S.ar i) ⟨x1, x2, x3, x4, x5, x6⟩).2.1 = data at *
 generalize (followS S.b (S.ar i) ⟨x1, x2, x3, x4, x5, x6⟩).1 = d1 at *
 generalize (followS S.b (S.ar i) ⟨x1, x2, x3, x4, x5, x6⟩).2.2 = d2 at *
 clear hdt
 go_enter Tryz.func32, Tryz.ntmps32
 go_wp2_with (first | (go_at_call 50; refine HC.out.mono ?_; rintro e w1 ⟨rfl, hb⟩; obtain ⟨q0, q1, q2, q3, q4, q5, q6, q7⟩ := HS0.out w1 hb; dsimp only at q0 q1 q2 q3 q4 q5 q6 q7) | (go_at_call 65; refine Calls.mono (HF.out w1 hb) ?_; rintro e w2 ⟨zs, zd, o, rfl, f1, f2, f3, f4⟩; unfold Sl.enc))
 go_ret2
 exact ⟨zd, o, rfl, f2, fun k hk => f3 k (Nat.lt_of_lt_of_le hk hb.size), hb.trans (f4.mono hb.size)⟩
theorem delete_none (w : World) (own : Nat → Nat) (t g gs : Nat) (ga : Nat → Nat) (S : SV) (H : SvMem w own t g gs ga S) (i : Nat) (hi : i < 8) (name : ByteArray) (hs : name.size < 2 ^ 62) (hd : S.dead = false) (hok : nameOk name = true) (hl : (S.ar i).ents.length < 2 ^ 40) (hf : findI (fun e => e.hd.name == name) (S.ar i).ents < 0) :
  Calls Tryz.prog 26 #[pt g, .int .i64 ((i : Int) + 1), .string name] w fun e w' => e = .returned (.int .i64 111) ∧ Below w.heap.size w w' := by
 have HC := Lib.hid (named_yes w own t g gs ga S H i hi name hs hd hok hl)
 have hb2 : decide (findI (fun e : EN => e.hd.name == name) (S.ar i).ents < 0) = true := by simp; exact hf
 generalize findI (fun e : EN => e.hd.name == name) (S.ar i).ents = r at *
 clear H hok hd
 go_enter Tryz.func26, Tryz.ntmps26
 go_wp2_with (go_at_call 50; refine HC.out.mono ?_; rintro e w' ⟨rfl, hb⟩)
 go_ret
 exact ⟨rfl, hb⟩
def delS (S : SV) (i k : Nat) (e : EN) : SV := SV.setE (SV.setB S (BS.sync (S.b.put (((S.ar i).frm + e.at_.toNat : Nat) : Int) (headS e.hd 0)))) i ((S.ar i).ents.eraseIdx k)
theorem strikeS_ok (S : SV) (i k : Nat) (e : EN) (hf : S.b.full = false) : strikeS S i k e = (delS S i k e, true) := by
 unfold strikeS layH
 rw [if_neg (by rw [hf]; decide)]
 rfl
def ActP (w : World) (own : Nat → Nat) (t g gs : Nat) (ga : Nat → Nat) (n : Nat) (S : SV) (e : Ending) (w' : World) : Prop :=
  e = .returned (.int .i64 0) ∧ BOk S.b ∧ S.b.n = n ∧ ∃ own', SvMem w' own' t g gs ga S ∧ Kp (k20 t) w own w' own'
set_option maxRecDepth 100000 in
theorem delete_yes (w : World) (own : Nat → Nat) (t g gs : Nat) (ga : Nat → Nat) (S : SV) (H : SvMem w own t g gs ga S) (ht : t ≠ 0) (i : Nat) (hi : i < 8) (hS : BOk S.b) (ha : (S.ar i).frm + (S.ar i).sec ≤ S.b.n) (name : ByteArray) (hs : name.size < 2 ^ 62) (hd : S.dead = false) (hok : nameOk name = true) (hl : (S.ar i).ents.length < 2 ^ 30) (k : Nat) (hf : findI (fun e => e.hd.name == name) (S.ar i).ents = k) (e : EN) (he : (S.ar i).ents[k]? = some e) (hh : e.hd.ok) (hat : 0 ≤ e.at_ ∧ e.at_ < ((S.ar i).sec : Int)) (hp : S.b.pend.length < 2 ^ 39) (hfu : S.b.full = false) :
  Calls Tryz.prog 26 #[pt g, .int .i64 ((i : Int) + 1), .string name] w (ActP w own t g gs ga S.b.n (delS S i k e)) := by
 have hcn := named_yes w own t g gs ga S H i hi name hs hd hok (by omega)
 rw [hf] at hcn
 have HC := Lib.hid hcn
 have hk0 : (0 : Int) ≤ (k : Int) := by omega
 have hk40 : k < 2 ^ 30 := by have := (List.getElem?_eq_some_iff.1 he).1; omega
 have HS := Lib.hid (fun (W : World) (h : Below w.heap.size w W) => strike_ok W _ t g gs ga S (H.below h) ht i hi hS ha k e he hh hat hp hl)
 rw [strikeS_ok S i k e hfu] at HS
 have hdd : (delS S i k e).dead = false := hd
 generalize hD : delS S i k e = D at *
 clear hD
 have HD := Lib.hid (fun (W : World) (o : Nat → Nat) (h : SvMem W o t g gs ga D) => done_nil W o t g gs ga D h ht hdd)
 clear hcn hf hok hd hdd H he hh hat hp hfu hs
 go_enter Tryz.func26, Tryz.ntmps26
 go_wp2_with (first | (go_at_call 50; refine HC.out.mono ?_; rintro e w1 ⟨rfl, hb⟩) | (go_at_call 57; refine Calls.mono (HS.out w1 hb) ?_; rintro e w2 ⟨rfl, p1, p2, o2, p3, p4⟩; simp only [if_true]) | (go_at_call 58; refine Calls.mono (HD.out w2 o2 p3) ?_; rintro e w3 ⟨rfl, o3, p5, p6⟩))
 go_ret
 exact ⟨rfl, p1, p2, o3, p5, ((Kp.below hb 0).trans p4).trans p6⟩
end Go.Proofs.YtmofiicjaldmiaaGreatDoor.SvZ
end
section
namespace Go.Proofs.YtmofiicjaldmiaaGreatDoor.SwA
open Go.RowKit Go.Shelf YtmofiicjaldmiaaGreatDoorW.PrintWords YtmofiicjaldmiaaGreatDoorW.PrintLast SvA SvB SvC SvD SvE SvF SvG SvH SvI SvJ SvK SvL SvM SvN SvO SvP SvQ SvR SvS SvT SvU SvV SvW SvX SvY SvZ
set_option linter.unusedVariables false
set_option linter.unusedSimpArgs false
def freeH (a : AR) : List Int := (freeS (fun n : Nat => a.ents.any (fun e => e.at_ == (n : Int))) 0 a.heads 1).map (fun n : Nat => (n : Int))
def freeD (a : AR) (m : Nat) : List Int := (freeS (fun n : Nat => a.ents.any (fun e => e.secs.contains (n : Int))) a.heads a.sec m).map (fun n : Nat => (n : Int))
structure NewI (w w' : World) (s : Sl) (xs : List Int) : Prop where
 below : Below w.heap.size w w'
 len : s.n = xs.length
 cap : s.n ≤ s.c
 c : i64K.C w' s.A s.n xs
 hd : 0 < s.n → ∃ b, s.A = some ⟨b, 0, none⟩ ∧ w.heap.size ≤ b
def FreeQ (w : World) (xs : List Int) (e : Ending) (w' : World) : Prop := ∃ s : Sl, e = .returned s.enc ∧ NewI w w' s xs
theorem freeP_q {w : World} {xs : List Int} {e : Ending} {w' : World} (h : FreeP w xs e w') : FreeQ w xs e w' := by
 obtain ⟨s, o, he, ho, hk⟩ := h
 obtain ⟨l1, l2, l3⟩ := ow_len ho
 refine ⟨s, he, kp_below hk (by omega), l1.symm, l2, l3, fun hn => ?_⟩
 obtain ⟨gb, hg⟩ := ow_head ho hn
 have hA : s.A = some ⟨gb, 0, none⟩ := by rw [hg]
 have hb := ow_blk_of ho _ hA
 refine ⟨gb, hA, ?_⟩
 have h1 := (ow_blk ho _ hb).1
 rcases Nat.lt_or_ge gb w.heap.size with hlt | hge
 ·
  have := (hk.block gb hlt (by omega)).1
  have h2 : o gb = 1 := h1
  rw [this] at h2
  cases h2
 · exact hge
theorem NewI.rd {w w' : World} {s : Sl} {xs : List Int} (h : NewI w w' s xs) {w0 : World} (own : Nat → Nat) (hb : w0.heap.size ≤ w.heap.size) : Rd i64K w' (tagged w0 own 0) 0 s xs :=
 ⟨h.c, h.cap, fun a ha hn => by
  obtain ⟨b, e, hl⟩ := h.hd hn
  rw [ha] at e
  injection e with e
  subst e
  exact tagged_new (Nat.le_trans hb hl)⟩
theorem NewI.cell {w w' : World} {b n c : Nat} {xs : List Int} (h : NewI w w' ⟨some ⟨b, 0, none⟩, n, c⟩ xs) (k : Nat) (x : Int) (hx : xs[k]? = some x) : w'.cell? ⟨b, k, none⟩ = some (.int .i64 x) := by
 have hk : k < n := by have := (List.getElem?_eq_some_iff.1 hx).1; rw [← h.len] at this; exact this
 obtain ⟨ad, hA, hc⟩ := sc_at h.c k hk x hx
 injection hA with hA
 subst hA
 rw [show (⟨b, 0, none⟩ : Addr).add k = ⟨b, k, none⟩ from by unfold Addr.add; split <;> simp_all] at hc
 exact hc
theorem heads_ok (w : World) (own : Nat → Nat) (t te g : Nat) (a : AR) (H : ArA w own t te g a) (hl : a.ents.length < 2 ^ 40) (hh : a.heads < 2 ^ 40) : Calls Tryz.prog 51 #[pt g, .int .i64 0, .int .i64 (a.heads : Int), .int .i64 1, .func (.func 52) #[] #[]] w (FreeQ w (freeH a)) := by
 obtain ⟨z, ps, hg, hb, hs, he⟩ := H
 have hpl : ps.length < 2 ^ 40 := by rw [← he.1, List.length_map] at hl; exact hl
 have h := free_ok w own t te g z _ _ _ _ ps hb hs hpl 0 a.heads 1 (by decide) hh (by decide) 52 (fun x v => x.en.at_ == v) (enters 52 Tryz.func52 (by kernel_rfl) rfl) (fun x hx v W hW => headTaken_ok x v W)
 refine h.mono ?_
 intro e w' hp
 have := freeP_q hp
 unfold freeH
 rw [← he.1]
 simp only [List.any_map]
 exact this
theorem data_ok (w : World) (own : Nat → Nat) (t te g : Nat) (a : AR) (H : ArA w own t te g a) (hl : a.ents.length < 2 ^ 40) (hh : a.heads < 2 ^ 40) (hs2 : a.sec < 2 ^ 40) (hes : ∀ e ∈ a.ents, e.secs.length < 2 ^ 40) (m : Nat) (hm : m < 2 ^ 40) : Calls Tryz.prog 51 #[pt g, .int .i64 (a.heads : Int), .int .i64 (a.sec : Int), .int .i64 (m : Int), .func (.func 54) #[] #[]] w (FreeQ w (freeD a m)) := by
 obtain ⟨z, ps, hg, hb, hs, he⟩ := H
 have hpl : ps.length < 2 ^ 40 := by rw [← he.1, List.length_map] at hl; exact hl
 have h := free_ok w own t te g z _ _ _ _ ps hb hs hpl a.heads a.sec m hh hs2 hm 54 (fun x v => x.en.secs.contains v) (enters 54 Tryz.func54 (by kernel_rfl) rfl) (fun x hx v W hW => by
  have hr := he.2 x hx
  have hxl : x.sl.n < 2 ^ 40 := by
   rw [← hr.1.1]
   exact hes x.en (by rw [← he.1]; exact List.mem_map.2 ⟨x, hx, rfl⟩)
  exact dataTaken_ok x v W (Kd.C_below hr.1 hW) hxl)
 refine h.mono ?_
 intro e w' hp
 have := freeP_q hp
 unfold freeD
 rw [← he.1]
 simp only [List.any_map]
 exact this
theorem freeS_len (tk : Nat → Bool) (frm til most : Nat) : (freeS tk frm til most).length ≤ most := by
 unfold freeS
 rw [List.length_take]
 omega
theorem freeS_mem {tk : Nat → Bool} {frm til most n : Nat} (h : n ∈ freeS tk frm til most) : frm ≤ n ∧ n < til ∧ tk n = false := by
 have h1 := List.mem_of_mem_take h
 obtain ⟨h2, h3⟩ := List.mem_filter.1 h1
 obtain ⟨h4, h5⟩ := List.mem_range'_1.1 h2
 exact ⟨h4, by omega, by simpa using h3⟩
theorem freeD_len (a : AR) (m : Nat) : (freeD a m).length ≤ m := by unfold freeD; rw [List.length_map]; exact freeS_len _ _ _ _
theorem freeH_len (a : AR) : (freeH a).length ≤ 1 := by unfold freeH; rw [List.length_map]; exact freeS_len _ _ _ _
theorem freeD_mem {a : AR} {m : Nat} {n : Int} (h : n ∈ freeD a m) : (a.heads : Int) ≤ n ∧ n < (a.sec : Int) ∧ ∀ e ∈ a.ents, n ∉ e.secs := by
 obtain ⟨k, hk, rfl⟩ := List.mem_map.1 h
 obtain ⟨h1, h2, h3⟩ := freeS_mem hk
 refine ⟨by omega, by omega, fun e he hm => ?_⟩
 have : (a.ents.any (fun e => e.secs.contains (k : Int))) = true := List.any_eq_true.2 ⟨e, he, List.contains_iff_mem.2 hm⟩
 rw [this] at h3
 cases h3
theorem freeH_mem {a : AR} {n : Int} (h : n ∈ freeH a) : 0 ≤ n ∧ n < (a.heads : Int) ∧ ∀ e ∈ a.ents, e.at_ ≠ n := by
 obtain ⟨k, hk, rfl⟩ := List.mem_map.1 h
 obtain ⟨h1, h2, h3⟩ := freeS_mem hk
 refine ⟨by omega, by omega, fun e he hm => ?_⟩
 have : (a.ents.any (fun e => e.at_ == (k : Int))) = true := List.any_eq_true.2 ⟨e, he, by rw [hm]; exact beq_self_eq_true _⟩
 rw [this] at h3
 cases h3
theorem full_lim {b : BS} (h : b.lim = false) : b.full = false := by unfold BS.full; rw [h]; rfl
theorem layD_lim (a : AR) (data : List Int) : ∀ (l : List Int) (b : BS) (i : Nat), b.lim = false → (layD a data b i l).2 = true ∧ (layD a data b i l).1.lim = false
 | [], b, i, h => ⟨rfl, h⟩
 | n :: l, b, i, h => by
  unfold layD
  rw [if_neg (by rw [full_lim h]; decide)]
  exact layD_lim a data l _ _ h
theorem layH_lim (a : AR) (e : EN) (f : Int) (b : BS) (h : b.lim = false) : layH a e f b = (BS.sync (b.put ((a.frm + e.at_.toNat : Nat) : Int) (headS e.hd f)), true) := by
 unfold layH
 rw [if_neg (by rw [full_lim h]; decide)]
def layB (a : AR) (e : EN) (data : List Int) (b : BS) : BS :=
  BS.sync ((BS.sync ((layD a data b 0 e.secs).1.put ((a.frm + e.at_.toNat : Nat) : Int) (headS e.hd 0))).put ((a.frm + e.at_.toNat : Nat) : Int) (headS e.hd 1))
theorem layS_lim (a : AR) (e : EN) (data : List Int) (b : BS) (h : b.lim = false) : layS a e data b = (layB a e data b, true) := by
 obtain ⟨h1, h2⟩ := layD_lim a data e.secs b 0 h
 unfold layS layB
 generalize layD a data b 0 e.secs = r at *
 obtain ⟨b1, ok⟩ := r
 dsimp only at h1 h2 ⊢
 subst h1
 dsimp only
 rw [layH_lim a e 0 b1 h2]
 dsimp only
 rw [layH_lim a e 1 _ (by exact h2)]
theorem layB_lim (a : AR) (e : EN) (data : List Int) (b : BS) (h : b.lim = false) : (layB a e data b).lim = false := (layD_lim a data e.secs b 0 h).2
theorem layB_pend (a : AR) (e : EN) (data : List Int) (b : BS) : (layB a e data b).pend = [] := rfl
def newE (a : AR) (ten : Int) (name : ByteArray) (ver : Int) (data : List Int) : EN := ⟨⟨ten, name, ver, data.length, sumS data, (freeD a (many data.length)).headD 0⟩, (freeH a).headD 0, freeD a (many data.length)⟩
def putS (S : SV) (i : Nat) (old : Option (Nat × EN)) (name : ByteArray) (data : List Int) : SV :=
 let e := newE (S.ar i) ((i : Int) + 1) name (match old with | none => 1 | some (_, x) => x.hd.ver + 1) data
 let S1 := SV.setB S (layB (S.ar i) e data S.b)
 let S2 := match old with | none => S1 | some (k, x) => delS S1 i k x
 SV.setE S2 i ((S2.ar i).ents ++ [e])
theorem entry_end {w w5 : World} {own o5 : Nat → Nat} {t g gs : Nat} {ga : Nat → Nat} {S : SV} (H : SvMem w own t g gs ga S) (ht : t ≠ 0) (i : Nat) (hi : i < 8) {x : EP} {s : Sl} {z : Sl} {ps : List EP}
  (hg : own (ga i) = t + 4 + i) (hb : Blk w (ga i) #[.int .i64 ((S.ar i).ten : Int), .int .i64 ((S.ar i).frm : Int), .int .i64 ((S.ar i).sec : Int), .int .i64 ((S.ar i).heads : Int), z.enc] 102) (he : Es w own ps (S.ar i).ents) (hx : Rd i64K w own 0 x.sl x.en.secs)
  (ho : Ow enK 107 w5 o5 (t + 12 + i) s (ps ++ [x])) (hk : Kp (fun q => q = t + 12 + i) w own w5 o5) :
  SvMem (w5.setCell ⟨ga i, 4, none⟩ s.enc) o5 t g gs ga (SV.setE S i ((S.ar i).ents ++ [x.en])) ∧ Kp (k20 t) w own (w5.setCell ⟨ga i, 4, none⟩ s.enc) o5 := by
 obtain ⟨b5, g5⟩ := hb.keep hk (by rw [hg]; omega)
 have hg5 : o5 (ga i) = t + 4 + i := g5.trans hg
 have hkA : Kp (fun q => q = t + 4 + i) w5 o5 (w5.setCell ⟨ga i, 4, none⟩ s.enc) o5 := (Kp.refl _ w5 o5).set _ _ (fun k hk hn e => hn (by rw [e]; exact hg5))
 have hkB : Kp (fun q => q = t + 4 + i ∨ q = t + 12 + i) w own (w5.setCell ⟨ga i, 4, none⟩ s.enc) o5 := (hk.mono (fun q h => .inr h)).trans (hkA.mono (fun q h => .inl h))
 refine ⟨SvMem.ents H i hi (ps := ps ++ [x]) (z := s) hkB ht hg5 (Blk.set (i := 4) b5 _) (ho.keep hkA (by omega)) ⟨by rw [List.map_append, he.1]; rfl, fun p hp => ?_⟩, hkB.mono (fun q h => ⟨by rcases h with h | h <;> omega, by rcases h with h | h <;> omega⟩)⟩
 rcases List.mem_append.1 hp with hp | hp
 · exact (he.2 p hp).keep i64K_K (by decide) hkB (by omega)
 ·
  simp at hp
  subst hp
  exact hx.keep i64K_K (by decide) hkB (by omega)
theorem entry_endD {w w5 : World} {own o5 : Nat → Nat} {t g gs : Nat} {ga : Nat → Nat} {S : SV} (H : SvMem w own t g gs ga S) (ht : t ≠ 0) (i : Nat) (hi : i < 8) {x : EP} {s : Sl} {z : Sl} {ps : List EP}
  (hg : own (ga i) = t + 4 + i) (hb : Blk w (ga i) #[.int .i64 ((S.ar i).ten : Int), .int .i64 ((S.ar i).frm : Int), .int .i64 ((S.ar i).sec : Int), .int .i64 ((S.ar i).heads : Int), z.enc] 102) (he : Es w own ps (S.ar i).ents) (hx : Rd i64K w own 0 x.sl x.en.secs)
  (ho : Ow enK 107 w5 o5 (t + 12 + i) s (ps ++ [x])) (hk : Kp (fun q => q = t + 12 + i) w.drew own w5 o5) :
  SvMem (w5.setCell ⟨ga i, 4, none⟩ s.enc) o5 t g gs ga (SV.setE S i ((S.ar i).ents ++ [x.en])) ∧ Kp (k20 t) w own (w5.setCell ⟨ga i, 4, none⟩ s.enc) o5 := by
 have h0 : Kp (fun _ => False) w own w.drew own := (Kp.refl _ w own).drew
 obtain ⟨h1, h2⟩ := entry_end (H.keep h0 (fun q => q) (fun _ _ _ q => q)) ht i hi hg (hb.keep h0 (fun q => q)).1 (he.keep h0 (fun q => q)) (hx.keep i64K_K (by decide) h0 (fun q => q)) ho hk
 exact ⟨h1, (h0.mono (fun _ h => h.elim)).trans h2⟩
end Go.Proofs.YtmofiicjaldmiaaGreatDoor.SwA
end
section
namespace Go.Proofs.YtmofiicjaldmiaaGreatDoor.SwB
open Go.RowKit Go.Shelf YtmofiicjaldmiaaGreatDoorW.PrintWords YtmofiicjaldmiaaGreatDoorW.PrintLast SvA SvB SvC SvD SvE SvF SvG SvH SvI SvJ SvK SvL SvM SvN SvO SvP SvQ SvR SvS SvT SvU SvV SvW SvX SvY SvZ SwA
set_option linter.unusedVariables false
set_option linter.unusedSimpArgs false
set_option maxRecDepth 100000 in
set_option maxHeartbeats 4000000 in
theorem put_full_neg (w : World) (own : Nat → Nat) (t g gs : Nat) (ga : Nat → Nat) (S : SV) (H : SvMem w own t g gs ga S) (ht : t ≠ 0) (i : Nat) (hi : i < 8) (hS : BOk S.b) (hA : AOk S i) (name : ByteArray) (hs : name.size < 2 ^ 62) (hn16 : name.size ≤ 16) (hd : S.dead = false) (hok : nameOk name = true) (A : Option Addr) (n c td : Nat) (data : List Int) (hda : Rd u8K w own td ⟨A, n, c⟩ data) (htd : ¬ k3 t td) (hu : u8s data) (hn : n ≤ 131072) (hf : findI (fun e => e.hd.name == name) (S.ar i).ents < 0) (hroom : freeH (S.ar i) = [] ∨ (freeD (S.ar i) (many n)).length < many n) :
  Calls Tryz.prog 23 #[pt g, .int .i64 ((i : Int) + 1), .string name, .slice A n c] w (fun e w' => e = .returned (.int .i64 112) ∧ Below w.heap.size w w') := by
 have hcn := named_yes w own t g gs ga S H i hi name hs hd hok (by have := hA.el; omega)
 have HH := Lib.hid H
 generalize hr : findI (fun e : EN => e.hd.name == name) (S.ar i).ents = r at *
 have hrk : decide (r ≥ 0) = false := by simp; omega
 clear hr
 have HC := Lib.hid hcn
 have HFH := Lib.hid (fun (W : World) (h : Below w.heap.size w W) => heads_ok W _ _ _ _ _ ((HH.out.below h).ar i hi) (by have := hA.el; omega) (by have := hA.s16; have := hA.hs; omega))
 have HFD := Lib.hid (fun (W : World) (h : Below w.heap.size w W) => data_ok W _ _ _ _ _ ((HH.out.below h).ar i hi) (by have := hA.el; omega) (by have := hA.s16; have := hA.hs; omega) (by have := hA.s16; omega) (fun e he => by have := (hA.eo e he).2.2.2; omega) (many n) (by unfold many; omega))
 have HAR := Lib.hid (fun (W : World) (h : Below w.heap.size w W) => ar_c1 ((HH.out.below h).ar i hi))
 have HDA := Lib.hid hda
 have hdl : data.length = n := hda.1.1
 have hnc : n ≤ c := hda.2.1
 have HHA := Lib.hid hA
 clear hcn H hok hda hA
 go_enter Tryz.func23, Tryz.ntmps23
 go_upto_region 7 with (first | (go_at_call 50; refine HC.out.mono ?_; rintro e w1 ⟨rfl, hb1⟩; have q3 := (HAR.out w1 hb1).2.2.2) | (go_at_call 51; refine Calls.mono (HFH.out w1 hb1) ?_; rintro e w2 ⟨⟨A1, n1, c1⟩, rfl, hN1⟩; unfold Sl.enc; dsimp only))
 have hb2 : Below w.heap.size w w2 := hb1.trans (hN1.below.mono hb1.size)
 have HN1 := Lib.hid hN1
 clear hN1 q3
 have hS0 : w2.cell? ⟨ga i, 2, none⟩ = some (.int .i64 ((S.ar i).sec : Int)) ∧ w2.cell? ⟨ga i, 3, none⟩ = some (.int .i64 ((S.ar i).heads : Int)) := ⟨(HAR.out w2 hb2).2.2.1, (HAR.out w2 hb2).2.2.2⟩
 refine start_ (n := 14) (S := fun w' => w'.cell? ⟨ga i, 2, none⟩ = some (.int .i64 ((S.ar i).sec : Int)) ∧ w'.cell? ⟨ga i, 3, none⟩ = some (.int .i64 ((S.ar i).heads : Int))) (ds := []) #[false, false, false, false, false, false, false, false, false, false, false, false, false, false] (by kernel_rfl) rfl rfl hS0 (fun hHeld => ?_)
 refine pu_ (i := 0) (N := some 38) (v := ?_) (a' := ?_) rfl rfl (by kernel_rfl) (fun _ _ _ h => h) (by rfl) ?_ ?_ ?_
 rotate_left
 · (intro w'; go_simp; with_reducible rfl)
 rotate_left
 · (simp only [put_s, List.set, i64_w, i32_w]; rfl)
 refine pu_ (i := 1) (N := some 39) (v := ?_) (a' := ?_) rfl rfl (by kernel_rfl) (fun _ _ _ h => h) (by rfl) ?_ ?_ ?_
 rotate_left
 · (intro w'; go_simp; with_reducible rfl)
 rotate_left
 · (simp only [put_s, List.set, i64_w, i32_w]; rfl)
 refine pu_ (i := 2) (N := some 40) (v := ?_) (a' := ?_) rfl rfl (by kernel_rfl) (fun _ _ _ h => h) (by rfl) ?_ ?_ ?_
 rotate_left
 · (intro w'; go_simp; with_reducible rfl)
 rotate_left
 · (simp only [put_s, List.set, i64_w, i32_w]; rfl)
 refine pu_ (i := 3) (N := some 41) (v := ?_) (a' := ?_) rfl rfl (by kernel_rfl) (fun _ _ _ h => h) (by rfl) ?_ ?_ ?_
 rotate_left
 · (intro w'; go_simp; with_reducible rfl)
 rotate_left
 · (simp only [put_s, List.set, i64_w, i32_w]; rfl)
 refine tk_ (i := 4) (N := some 42) (v := ?_) (a' := ?_) rfl rfl (by kernel_rfl) (fun _ _ _ h => h) (by rfl) ?_ hHeld ?_ ?_
 rotate_left
 ·
  intro w' s0
  obtain ⟨q1, q2⟩ := s0
  go_simp
  with_reducible rfl
 rotate_left
 · (simp only [put_s, List.set, i64_w, i32_w]; rfl)
 refine pu_ (i := 5) (N := some 43) (v := ?_) (a' := ?_) rfl rfl (by kernel_rfl) (fun _ _ _ h => h) (by rfl) ?_ ?_ ?_
 rotate_left
 · (intro w'; go_simp; with_reducible rfl)
 rotate_left
 · (simp only [put_s, List.set, i64_w, i32_w]; rfl)
 refine pu_ (i := 6) (N := some 44) (v := ?_) (a' := ?_) rfl rfl (by kernel_rfl) (fun _ _ _ h => h) (by rfl) ?_ ?_ ?_
 rotate_left
 · (intro w'; go_simp; with_reducible rfl)
 rotate_left
 · (simp only [put_s, List.set, i64_w, i32_w]; rfl)
 refine pu_ (i := 7) (N := some 45) (v := ?_) (a' := ?_) rfl rfl (by kernel_rfl) (fun _ _ _ h => h) (by rfl) ?_ ?_ ?_
 rotate_left
 · (intro w'; go_simp; with_reducible rfl)
 rotate_left
 · (simp only [put_s, List.set, i64_w, i32_w]; rfl)
 refine tk_ (i := 8) (N := some 46) (v := ?_) (a' := ?_) rfl rfl (by kernel_rfl) (fun _ _ _ h => h) (by rfl) ?_ hHeld ?_ ?_
 rotate_left
 ·
  intro w' s0
  obtain ⟨q1, q2⟩ := s0
  go_simp
  with_reducible rfl
 rotate_left
 · (simp only [put_s, List.set, i64_w, i32_w]; rfl)
 refine pu_ (i := 9) (N := some 47) (v := ?_) (a' := ?_) rfl rfl (by kernel_rfl) (fun _ _ _ h => h) (by rfl) ?_ ?_ ?_
 rotate_left
 · (intro w'; go_simp; with_reducible rfl)
 rotate_left
 · (simp only [put_s, List.set, i64_w, i32_w]; rfl)
 refine pu_ (i := 10) (N := some 48) (v := ?_) (a' := ?_) rfl rfl (by kernel_rfl) (fun _ _ _ h => h) (by rfl) ?_ ?_ ?_
 rotate_left
 · (intro w'; go_simp; with_reducible rfl)
 rotate_left
 · (simp only [put_s, List.set, i64_w, i32_w]; rfl)
 refine on_ (i := 11) (N := some 49) rfl rfl (by kernel_rfl) (by decide) (fun K hK => ?_)
 refine goes_ Tryz.func53 (by kernel_rfl) rfl #[.int .i64 (n : Int)] (by first | rfl | (simp [Act.eval]; done)) rfl rfl (by first | rfl | (simp [Act.eval]; done)) ?_
 refine Calls.mono (many_ok _ n (by omega)) ?_
 rintro e w' ⟨rfl, rfl⟩
 refine ⟨_, rfl, ?_⟩
 refine hK.out _ _ hHeld (fun hHeld => ?_)
 clear hK K
 refine norm_ (a' := ?_) ?_ ?_
 rotate_left
 ·
  show Act.put _ (some 49) _ = _
  simp only [put_s, List.set, i64_w, i32_w]
  rfl
 refine on_ (i := 12) (N := some 50) rfl rfl (by kernel_rfl) (by decide) (fun K hK => ?_)
 refine goes_ Tryz.func51 (by kernel_rfl) rfl #[pt (ga i), .int .i64 ((S.ar i).heads : Int), .int .i64 ((S.ar i).sec : Int), .int .i64 (many n : Int), .func (.func 54) #[] #[]] (by first | rfl | (simp [Act.eval]; done)) rfl rfl (by first | rfl | (simp [Act.eval]; done)) ?_
 refine Calls.mono (HFD.out w2.drew hb2.drew) ?_
 rintro e w3 ⟨⟨A2, n2, c2⟩, rfl, hN2⟩
 unfold Sl.enc; dsimp only
 refine ⟨_, rfl, ?_⟩
 refine hK.out _ _ ⟨cellOf hN2.below hHeld.1, cellOf hN2.below hHeld.2⟩ (fun hHeld => ?_)
 clear hK K
 refine norm_ (a' := ?_) ?_ ?_
 rotate_left
 ·
  show Act.put _ (some 50) _ = _
  simp only [put_s, List.set, i64_w, i32_w]
  rfl
 refine pu_ (i := 13) (N := some 13) (v := ?_) (a' := ?_) rfl rfl (by kernel_rfl) (fun _ _ _ h => h) (by rfl) ?_ ?_ ?_
 rotate_left
 · (intro w'; go_simp; with_reducible rfl)
 rotate_left
 · (simp only [put_s, List.set, i64_w, i32_w]; rfl)
 refine done_ (by kernel_rfl) ?_
 have hb3 : Below w.heap.size w w3 := hb2.drew.trans (hN2.below.mono hb2.size)
 have HN2 := Lib.hid hN2
 clear hHeld hN2 hS0
 go_upto_region 9 with (fail)
 have hl1 : n1 = (freeH (S.ar i)).length := HN1.out.len
 have hl2 : n2 = (freeD (S.ar i) (many n)).length := HN2.out.len
 by_cases h1 : n1 = 0
 ·
  have e1 : ((n1 : Int) == 0) = true := beq_iff_eq.2 (by omega)
  clear hl1 hl2 h1
  go_wp2_with fail
  go_ret
  exact ⟨rfl, hb3⟩
 ·
  have e1 : ((n1 : Int) == 0) = false := beq_eq_false_iff_ne.2 (by omega)
  have e3 : (n2 : Int) < (many n : Int) := by
   rcases hroom with h | h
   · rw [h] at hl1; exact absurd hl1 h1
   · omega
  have e2 : decide ((n2 : Int) < (many n : Int)) = true := decide_eq_true e3
  clear hl1 hl2 h1
  go_wp2_with (go_at_call 53; refine (many_ok _ n (by omega)).mono ?_; rintro e w' ⟨rfl, rfl⟩)
  go_ret
  exact ⟨rfl, hb3⟩
set_option maxRecDepth 100000 in
set_option maxHeartbeats 4000000 in
theorem put_full_pos (w : World) (own : Nat → Nat) (t g gs : Nat) (ga : Nat → Nat) (S : SV) (H : SvMem w own t g gs ga S) (ht : t ≠ 0) (i : Nat) (hi : i < 8) (hS : BOk S.b) (hA : AOk S i) (name : ByteArray) (hs : name.size < 2 ^ 62) (hn16 : name.size ≤ 16) (hd : S.dead = false) (hok : nameOk name = true) (A : Option Addr) (n c td : Nat) (data : List Int) (hda : Rd u8K w own td ⟨A, n, c⟩ data) (htd : ¬ k3 t td) (hu : u8s data) (hn : n ≤ 131072) (k : Nat) (hf : findI (fun e => e.hd.name == name) (S.ar i).ents = k) (e0 : EN) (he : (S.ar i).ents[k]? = some e0) (hv : e0.hd.ver < 4294967295) (hroom : freeH (S.ar i) = [] ∨ (freeD (S.ar i) (many n)).length < many n) :
  Calls Tryz.prog 23 #[pt g, .int .i64 ((i : Int) + 1), .string name, .slice A n c] w (fun e w' => e = .returned (.int .i64 112) ∧ Below w.heap.size w w') := by
 have hcn := named_yes w own t g gs ga S H i hi name hs hd hok (by have := hA.el; omega)
 rw [hf] at hcn
 have HH := Lib.hid H
 obtain ⟨z, ps, hg, hb, hz, hes⟩ := H.ar i hi
 have hpl : ps.length = (S.ar i).ents.length := by rw [← hes.1, List.length_map]
 have hkl : k < ps.length := by rw [hpl]; exact (List.getElem?_eq_some_iff.1 he).1
 obtain ⟨x0, hx⟩ : ∃ x, ps[k]? = some x := ⟨_, List.getElem?_eq_getElem hkl⟩
 have hxe : x0.en = e0 := by
  have h1 : (ps.map (·.en))[k]? = some x0.en := by rw [List.getElem?_map, hx]; rfl
  rw [hes.1, he] at h1
  injection h1 with h1
  exact h1.symm
 subst hxe
 obtain ⟨gb, hgb⟩ := ow_head hz (by rw [← (ow_len hz).1]; omega)
 obtain ⟨zA, zn, zc⟩ := z
 injection hgb with hgb _ _
 subst hgb
 have hkn0 : ps.length = zn := (ow_len hz).1
 have hkn : (k : Int) < (zn : Int) := by omega
 have hk0 : (0 : Int) ≤ (k : Int) := by omega
 have hk40 : k < 2 ^ 30 := by have := hA.el; omega
 have HE := Lib.hid (fun (W : World) (h : Below w.heap.size w W) => stS (hb.below h) (hz.keep (Kp.below (ts := fun _ => False) h 0) (fun q => q)) hx)
 have HEO := Lib.hid (hA.eo x0.en (List.mem_of_getElem? he))
 have HGE := Lib.hid he
 clear hb hz hes hx hg hpl hkl hf he hkn0
 obtain ⟨⟨⟨x1, x2, x3, x4, x5, x6⟩, x7, xs⟩, ⟨x8, x9, x10⟩⟩ := x0
 dsimp only at *
 have hx3 : 0 ≤ x3 := HEO.out.1.v0.1
 have hve : (x3 == 4294967295) = false := beq_eq_false_iff_ne.2 (by omega)
 have hrk : decide ((k : Int) ≥ 0) = true := by simp
 have HC := Lib.hid hcn
 have HFH := Lib.hid (fun (W : World) (h : Below w.heap.size w W) => heads_ok W _ _ _ _ _ ((HH.out.below h).ar i hi) (by have := hA.el; omega) (by have := hA.s16; have := hA.hs; omega))
 have HFD := Lib.hid (fun (W : World) (h : Below w.heap.size w W) => data_ok W _ _ _ _ _ ((HH.out.below h).ar i hi) (by have := hA.el; omega) (by have := hA.s16; have := hA.hs; omega) (by have := hA.s16; omega) (fun e he => by have := (hA.eo e he).2.2.2; omega) (many n) (by unfold many; omega))
 have HAR := Lib.hid (fun (W : World) (h : Below w.heap.size w W) => ar_c1 ((HH.out.below h).ar i hi))
 have HDA := Lib.hid hda
 have hdl : data.length = n := hda.1.1
 have hnc : n ≤ c := hda.2.1
 have HHA := Lib.hid hA
 clear hcn H hok hda hA
 go_enter Tryz.func23, Tryz.ntmps23
 go_upto_region 7 with (first | (go_at_call 50; refine HC.out.mono ?_; rintro e w1 ⟨rfl, hb1⟩; have q3 := (HAR.out w1 hb1).2.2.2) | (go_at_call 51; refine Calls.mono (HFH.out w1 hb1) ?_; rintro e w2 ⟨⟨A1, n1, c1⟩, rfl, hN1⟩; unfold Sl.enc; dsimp only))
 have hb2 : Below w.heap.size w w2 := hb1.trans (hN1.below.mono hb1.size)
 have HN1 := Lib.hid hN1
 clear hN1 q3
 have hS0 : w2.cell? ⟨ga i, 2, none⟩ = some (.int .i64 ((S.ar i).sec : Int)) ∧ w2.cell? ⟨ga i, 3, none⟩ = some (.int .i64 ((S.ar i).heads : Int)) := ⟨(HAR.out w2 hb2).2.2.1, (HAR.out w2 hb2).2.2.2⟩
 refine start_ (n := 14) (S := fun w' => w'.cell? ⟨ga i, 2, none⟩ = some (.int .i64 ((S.ar i).sec : Int)) ∧ w'.cell? ⟨ga i, 3, none⟩ = some (.int .i64 ((S.ar i).heads : Int))) (ds := []) #[false, false, false, false, false, false, false, false, false, false, false, false, false, false] (by kernel_rfl) rfl rfl hS0 (fun hHeld => ?_)
 refine pu_ (i := 0) (N := some 38) (v := ?_) (a' := ?_) rfl rfl (by kernel_rfl) (fun _ _ _ h => h) (by rfl) ?_ ?_ ?_
 rotate_left
 · (intro w'; go_simp; with_reducible rfl)
 rotate_left
 · (simp only [put_s, List.set, i64_w, i32_w]; rfl)
 refine pu_ (i := 1) (N := some 39) (v := ?_) (a' := ?_) rfl rfl (by kernel_rfl) (fun _ _ _ h => h) (by rfl) ?_ ?_ ?_
 rotate_left
 · (intro w'; go_simp; with_reducible rfl)
 rotate_left
 · (simp only [put_s, List.set, i64_w, i32_w]; rfl)
 refine pu_ (i := 2) (N := some 40) (v := ?_) (a' := ?_) rfl rfl (by kernel_rfl) (fun _ _ _ h => h) (by rfl) ?_ ?_ ?_
 rotate_left
 · (intro w'; go_simp; with_reducible rfl)
 rotate_left
 · (simp only [put_s, List.set, i64_w, i32_w]; rfl)
 refine pu_ (i := 3) (N := some 41) (v := ?_) (a' := ?_) rfl rfl (by kernel_rfl) (fun _ _ _ h => h) (by rfl) ?_ ?_ ?_
 rotate_left
 · (intro w'; go_simp; with_reducible rfl)
 rotate_left
 · (simp only [put_s, List.set, i64_w, i32_w]; rfl)
 refine tk_ (i := 4) (N := some 42) (v := ?_) (a' := ?_) rfl rfl (by kernel_rfl) (fun _ _ _ h => h) (by rfl) ?_ hHeld ?_ ?_
 rotate_left
 ·
  intro w' s0
  obtain ⟨q1, q2⟩ := s0
  go_simp
  with_reducible rfl
 rotate_left
 · (simp only [put_s, List.set, i64_w, i32_w]; rfl)
 refine pu_ (i := 5) (N := some 43) (v := ?_) (a' := ?_) rfl rfl (by kernel_rfl) (fun _ _ _ h => h) (by rfl) ?_ ?_ ?_
 rotate_left
 · (intro w'; go_simp; with_reducible rfl)
 rotate_left
 · (simp only [put_s, List.set, i64_w, i32_w]; rfl)
 refine pu_ (i := 6) (N := some 44) (v := ?_) (a' := ?_) rfl rfl (by kernel_rfl) (fun _ _ _ h => h) (by rfl) ?_ ?_ ?_
 rotate_left
 · (intro w'; go_simp; with_reducible rfl)
 rotate_left
 · (simp only [put_s, List.set, i64_w, i32_w]; rfl)
 refine pu_ (i := 7) (N := some 45) (v := ?_) (a' := ?_) rfl rfl (by kernel_rfl) (fun _ _ _ h => h) (by rfl) ?_ ?_ ?_
 rotate_left
 · (intro w'; go_simp; with_reducible rfl)
 rotate_left
 · (simp only [put_s, List.set, i64_w, i32_w]; rfl)
 refine tk_ (i := 8) (N := some 46) (v := ?_) (a' := ?_) rfl rfl (by kernel_rfl) (fun _ _ _ h => h) (by rfl) ?_ hHeld ?_ ?_
 rotate_left
 ·
  intro w' s0
  obtain ⟨q1, q2⟩ := s0
  go_simp
  with_reducible rfl
 rotate_left
 · (simp only [put_s, List.set, i64_w, i32_w]; rfl)
 refine pu_ (i := 9) (N := some 47) (v := ?_) (a' := ?_) rfl rfl (by kernel_rfl) (fun _ _ _ h => h) (by rfl) ?_ ?_ ?_
 rotate_left
 · (intro w'; go_simp; with_reducible rfl)
 rotate_left
 · (simp only [put_s, List.set, i64_w, i32_w]; rfl)
 refine pu_ (i := 10) (N := some 48) (v := ?_) (a' := ?_) rfl rfl (by kernel_rfl) (fun _ _ _ h => h) (by rfl) ?_ ?_ ?_
 rotate_left
 · (intro w'; go_simp; with_reducible rfl)
 rotate_left
 · (simp only [put_s, List.set, i64_w, i32_w]; rfl)
 refine on_ (i := 11) (N := some 49) rfl rfl (by kernel_rfl) (by decide) (fun K hK => ?_)
 refine goes_ Tryz.func53 (by kernel_rfl) rfl #[.int .i64 (n : Int)] (by first | rfl | (simp [Act.eval]; done)) rfl rfl (by first | rfl | (simp [Act.eval]; done)) ?_
 refine Calls.mono (many_ok _ n (by omega)) ?_
 rintro e w' ⟨rfl, rfl⟩
 refine ⟨_, rfl, ?_⟩
 refine hK.out _ _ hHeld (fun hHeld => ?_)
 clear hK K
 refine norm_ (a' := ?_) ?_ ?_
 rotate_left
 ·
  show Act.put _ (some 49) _ = _
  simp only [put_s, List.set, i64_w, i32_w]
  rfl
 refine on_ (i := 12) (N := some 50) rfl rfl (by kernel_rfl) (by decide) (fun K hK => ?_)
 refine goes_ Tryz.func51 (by kernel_rfl) rfl #[pt (ga i), .int .i64 ((S.ar i).heads : Int), .int .i64 ((S.ar i).sec : Int), .int .i64 (many n : Int), .func (.func 54) #[] #[]] (by first | rfl | (simp [Act.eval]; done)) rfl rfl (by first | rfl | (simp [Act.eval]; done)) ?_
 refine Calls.mono (HFD.out w2.drew hb2.drew) ?_
 rintro e w3 ⟨⟨A2, n2, c2⟩, rfl, hN2⟩
 unfold Sl.enc; dsimp only
 refine ⟨_, rfl, ?_⟩
 refine hK.out _ _ ⟨cellOf hN2.below hHeld.1, cellOf hN2.below hHeld.2⟩ (fun hHeld => ?_)
 clear hK K
 refine norm_ (a' := ?_) ?_ ?_
 rotate_left
 ·
  show Act.put _ (some 50) _ = _
  simp only [put_s, List.set, i64_w, i32_w]
  rfl
 refine pu_ (i := 13) (N := some 13) (v := ?_) (a' := ?_) rfl rfl (by kernel_rfl) (fun _ _ _ h => h) (by rfl) ?_ ?_ ?_
 rotate_left
 · (intro w'; go_simp; with_reducible rfl)
 rotate_left
 · (simp only [put_s, List.set, i64_w, i32_w]; rfl)
 refine done_ (by kernel_rfl) ?_
 have hb3 : Below w.heap.size w w3 := hb2.drew.trans (hN2.below.mono hb2.size)
 have HN2 := Lib.hid hN2
 clear hHeld hN2 hS0
 obtain ⟨q0, q1, q2, q3, q4, q5, q6, q7⟩ := HE.out w3 hb3; dsimp only at q0 q1 q2 q3 q4 q5 q6 q7
 go_upto_region 9 with (fail)
 have hl1 : n1 = (freeH (S.ar i)).length := HN1.out.len
 have hl2 : n2 = (freeD (S.ar i) (many n)).length := HN2.out.len
 by_cases h1 : n1 = 0
 ·
  have e1 : ((n1 : Int) == 0) = true := beq_iff_eq.2 (by omega)
  clear hl1 hl2 h1
  go_wp2_with fail
  go_ret
  exact ⟨rfl, hb3⟩
 ·
  have e1 : ((n1 : Int) == 0) = false := beq_eq_false_iff_ne.2 (by omega)
  have e3 : (n2 : Int) < (many n : Int) := by
   rcases hroom with h | h
   · rw [h] at hl1; exact absurd hl1 h1
   · omega
  have e2 : decide ((n2 : Int) < (many n : Int)) = true := decide_eq_true e3
  clear hl1 hl2 h1
  go_wp2_with (go_at_call 53; refine (many_ok _ n (by omega)).mono ?_; rintro e w' ⟨rfl, rfl⟩)
  go_ret
  exact ⟨rfl, hb3⟩
end Go.Proofs.YtmofiicjaldmiaaGreatDoor.SwB
end
