import Derived.Test.YtmofiicjaldmiaaGreatDoorGAf
section
namespace Go.Proofs.YtmofiicjaldmiaaGreatDoor.SwX
open Go.RowKit Go.Shelf YtmofiicjaldmiaaGreatDoorW.PrintWords YtmofiicjaldmiaaGreatDoorW.PrintLast SvA SvB SvC SvD SvE SvF SvG SvH SvI SvJ SvK SvL SvM SvN SvO SvP SvQ SvR SvS SvT SvU SvV SvW SvX SvY SvZ SwA SwB SwC SwD SwE SwF SwG SwI SwJ SwK SwH SwL SwM SwN SwO SwP SwQ SwR SwS SwT
set_option linter.unusedVariables false
set_option linter.unusedSimpArgs false
open Go.Lib
theorem bax {a b : ByteArray} (h : a ≠ b) : (a == b) = false := by
 rw [Bool.eq_false_iff]
 exact fun q => h ((ba_beq _ _).1 q)
abbrev strK : Kd ByteArray := Kd.string
theorem info9 : (Tryz.prog.info? 9).map (fun i => (i.zero, i.size, i.bytes)) = some (some (.string ⟨#[]⟩), 1, 16) := by kernel_rfl
def hasS (S : SV) (t : Nat) (name : ByteArray) : Bool := (oldS (S.ar t) name).isSome
def cellV (S : SV) (D : Nat → ByteArray → List Int) (t n : Nat) : ByteArray := if hasS S t (nmS n) then ⟨#[61]⟩ ++ strOfNums (D t (nmS n)) else ⟨#[45]⟩
def vwR (S : SV) (D : Nat → ByteArray → List Int) (t k : Nat) : List ByteArray := (List.range k).map (cellV S D t)
def vwP (S : SV) (D : Nat → ByteArray → List Int) (t : Nat) : List ByteArray := (List.range t).flatMap (fun t => vwR S D t 6)
theorem vwR_succ (S : SV) (D : Nat → ByteArray → List Int) (t k : Nat) : vwR S D t (k + 1) = vwR S D t k ++ [cellV S D t k] := by simp [vwR, List.range_succ]
theorem vwP_succ (S : SV) (D : Nat → ByteArray → List Int) (t : Nat) : vwP S D (t + 1) = vwP S D t ++ vwR S D t 6 := by simp [vwP, List.range_succ]
theorem vwR_len (S : SV) (D : Nat → ByteArray → List Int) (t k : Nat) : (vwR S D t k).length = k := by simp [vwR]
theorem vwP_len (S : SV) (D : Nat → ByteArray → List Int) (t : Nat) : (vwP S D t).length = 6 * t := by
 induction t with
 | zero => rfl
 | succ t ih => rw [vwP_succ, List.length_append, ih, vwR_len]; omega
def GN (S : SV) : Prop := ∀ t, t < 8 → ∀ e ∈ (S.ar t).ents, ∃ n, n < 6 ∧ e.hd.name = nmS n
def cntP (S : SV) (t k : Nat) : Nat := ((List.range k).filter (fun n => hasS S t (nmS n))).length
theorem cntP_succ (S : SV) (t k : Nat) : cntP S t (k + 1) = cntP S t k + (if hasS S t (nmS k) then 1 else 0) := by
 unfold cntP
 rw [List.range_succ, List.filter_append, List.length_append]
 congr 1
 cases h : hasS S t (nmS k) <;> simp [h]
theorem hasS_iff {S : SV} {t : Nat} {name : ByteArray} : hasS S t name = true ↔ ∃ e ∈ (S.ar t).ents, e.hd.name = name := by
 unfold hasS
 rcases ho : oldS (S.ar t) name with _ | ⟨k, e⟩
 ·
  have := oldS_no ho
  simp only [Option.isSome_none, Bool.false_eq_true, false_iff]
  rintro ⟨e, he, hn⟩
  exact this e he hn
 ·
  obtain ⟨o1, o2⟩ := oldS_name ho
  simp only [Option.isSome_some, true_iff]
  exact ⟨e, List.mem_of_getElem? o2, o1⟩
def ix (name : ByteArray) : Nat := if name == nmS 0 then 0 else if name == nmS 1 then 1 else if name == nmS 2 then 2 else if name == nmS 3 then 3 else if name == nmS 4 then 4 else 5
theorem ix_nm {n : Nat} (h : n < 6) : ix (nmS n) = n := by
  rcases (show n = 0 ∨ n = 1 ∨ n = 2 ∨ n = 3 ∨ n = 4 ∨ n = 5 by omega) with rfl | rfl | rfl | rfl | rfl | rfl <;> decide
theorem fil_len {α : Type} (p : α → Bool) (l : List α) : (l.filter p).length + (l.filter (fun x => !p x)).length = l.length := by
 induction l with
 | nil => rfl
 | cons x l ih =>
  rw [List.filter_cons, List.filter_cons]
  cases p x <;> simp <;> omega
theorem cntP_all {S : SV} {n m t : Nat} (hg : GA n t m (S.ar t)) (ht : t < 8) (hn : GN S) : cntP S t 6 = (S.ar t).ents.length := by
 have hnn := hn t ht
 have hL : ((S.ar t).ents.map (fun e => ((ix e.hd.name : Nat) : Int))).Nodup := by
  have h1 := hg.nd
  unfold List.Nodup at h1 ⊢
  rw [List.pairwise_map] at h1 ⊢
  refine List.Pairwise.imp_of_mem ?_ h1
  intro a b ha hb hab he
  obtain ⟨p, hp, hpe⟩ := hnn a ha
  obtain ⟨q, hq, hqe⟩ := hnn b hb
  rw [hpe, hqe, ix_nm hp, ix_nm hq] at he
  exact hab (by rw [hpe, hqe, show p = q by omega])
 have h1 := free_cnt 0 6 _ hL (fun x hx => by
  obtain ⟨e, he, rfl⟩ := List.mem_map.1 hx
  obtain ⟨p, hp, hpe⟩ := hnn e he
  rw [hpe, ix_nm hp]
  omega)
 rw [List.length_map] at h1
 have h2 : (List.range' 0 6).filter (fun n : Nat => !((S.ar t).ents.map (fun e => ((ix e.hd.name : Nat) : Int))).contains (n : Int)) = (List.range 6).filter (fun n => !hasS S t (nmS n)) := by
  rw [← List.range_eq_range']
  apply List.filter_congr
  intro n hnm
  have hn6 := List.mem_range.1 hnm
  congr 1
  rw [Bool.eq_iff_iff, List.contains_iff_mem, hasS_iff, List.mem_map]
  constructor
  ·
   rintro ⟨e, he, hq⟩
   obtain ⟨p, hp, hpe⟩ := hnn e he
   rw [hpe, ix_nm hp] at hq
   exact ⟨e, he, by rw [hpe, show p = n by omega]⟩
  ·
   rintro ⟨e, he, hq⟩
   exact ⟨e, he, by rw [hq, ix_nm hn6]⟩
 rw [h2] at h1
 have h3 : ((List.range 6).filter (fun n => hasS S t (nmS n))).length + ((List.range 6).filter (fun n => !hasS S t (nmS n))).length = 6 := by
  have := fil_len (fun n => hasS S t (nmS n)) (List.range 6)
  rw [List.length_range] at this
  omega
 unfold cntP
 omega
def ViewP (w : World) (xs : List ByteArray) (e : Ending) (w' : World) : Prop := ∃ (z : Sl) (o : Nat → Nat), e = .returned (.tuple #[z.enc, .bool true]) ∧ Ow strK 9 w' o 2 z xs ∧ (∀ k, k < w.heap.size → o k = 0) ∧ Below w.heap.size w w'
theorem str_size (xs : List Int) : (strOfNums xs).size = xs.length := by
 show ((xs.map fun n => UInt8.ofNat n.toNat).toArray).size = _
 simp
set_option maxRecDepth 100000 in
set_option maxHeartbeats 4000000 in
theorem view_ok (w : World) (own : Nat → Nat) (tg g gs : Nat) (ga : Nat → Nat) (S : SV) (H : SvMem w own tg g gs ga S) {n m : Nat} {D : Nat → ByteArray → List Int} (hg : GS S n m) (hc : CS S D) (hn : 8 ≤ n) (hN : GN S) : Calls Tryz.prog 21 #[pt g] w (ViewP w (vwP S D 8)) := by
 have HGY := Lib.hid (fun (t k : Nat) (ht : t < 8) (hk : k < 6) (hh : hasS S t (nmS k) = true) (W : World) (h : Below w.heap.size w W) => SwR.get_at w own tg g gs ga S H hg hc hn W h t ht (nmS k) (nmS_ok k hk) hh)
 have HGN := Lib.hid (fun (t k : Nat) (ht : t < 8) (hk : k < 6) (hh : oldS (S.ar t) (nmS k) = none) (W : World) (h : Below w.heap.size w W) => get_miss W _ tg g gs ga S (H.below h) hg t ht (nmS k) (nmS_ok k hk) hh)
 have HL := Lib.hid (fun (t : Nat) (ht : t < 8) (W : World) (h : Below w.heap.size w W) => list_at w own tg g gs ga S H hg W h t ht)
 have HCN := Lib.hid (fun (t : Nat) (ht : t < 8) => cntP_all (hg.ar t ht) ht hN)
 have HDL := Lib.hid (fun (t k : Nat) (ht : t < 8) (hh : hasS S t (nmS k) = true) => (show (D t (nmS k)).length ≤ 131072 by
  obtain ⟨e, he, hn⟩ := hasS_iff.1 hh
  have h1 := ((hc t ht).ge e he).size
  rw [hn] at h1
  have h2 := ((hg.ar t ht).ok e he).2.2.2.2.1
  omega))
 have HEL := Lib.hid (fun (t : Nat) (ht : t < 8) => (show (S.ar t).ents.length < 1000000 by have h1 := (hg.ar t ht).len_le; rw [(hg.ar t ht).hds] at h1; have := hg.hn; omega))
 clear H hg hc hN
 go_enter Tryz.func21, Tryz.ntmps21
 go_wp2_with fail
 go_loopw [5, 4, 6, 7, 8, 9, 10, 11] (fun v l _ _ _ _ _ _ wr => ∃ t : Nat, t ≤ 8 ∧ v = .int .i64 ((t : Int) + 1) ∧ ∃ (s : Sl) (o : Nat → Nat), l = .slice s.A s.n s.c ∧ Ow strK 9 wr o 2 s (vwP S D t) ∧ Kp (fun q => q = 2) w (fun _ => 0) wr o) (fun v _ _ _ _ _ _ _ _ => 9 - (intOf v).toNat)
 case atStart => exact ⟨0, by omega, rfl, nilS, fun _ => 0, rfl, Kd.R_nil _ _ _ _ _, Kp.refl _ _ _⟩
 case round =>
  obtain ⟨t, ht, rfl, s, o, rfl, hs, hkp⟩ := hrel
  by_cases hlt : t < 8
  ·
   have dl : decide ((t : Int) + 1 ≤ 8) = true := by simp; omega
   have HS := Lib.hid hs
   have HK := Lib.hid hkp
   clear hs hkp
   go_wp2_with fail
   go_loopw [7, 6, 4, 8, 9] (fun v mn l _ _ wr2 => ∃ k : Nat, k ≤ 6 ∧ v = .int .i64 (k : Int) ∧ mn = .int .i64 (cntP S t k : Int) ∧ ∃ (s : Sl) (o : Nat → Nat), l = .slice s.A s.n s.c ∧ Ow strK 9 wr2 o 2 s (vwP S D t ++ vwR S D t k) ∧ Kp (fun q => q = 2) w (fun _ => 0) wr2 o) (fun v _ _ _ _ _ => 6 - (intOf v).toNat)
   case atStart => exact ⟨0, by omega, rfl, rfl, s, o, rfl, by rw [show vwP S D t ++ vwR S D t 0 = vwP S D t from List.append_nil _]; exact HS.out, HK.out⟩
   case round =>
    clear HS HK
    obtain ⟨k, hk, rfl, rfl, s2, o2, rfl, hs, hkp⟩ := hrel
    have hb := kp_below hkp (by decide)
    have hxl : (vwP S D t ++ vwR S D t k).length < 100 := by rw [List.length_append, vwP_len, vwR_len]; omega
    have hcb : cntP S t k ≤ 6 := by
     unfold cntP
     have := List.length_filter_le (fun n => hasS S t (nmS n)) (List.range k)
     rw [List.length_range] at this
     omega
    by_cases hlk : k < 6
    ·
     have dk : decide ((k : Int) < 6) = true := by simp; omega
     have hk6 : (k : Int) < 6 := by omega
     have HB := Lib.hid hb
     have hnc : ∀ W : World, (W.alloc (.cells #[.string (nmS 0), .string (nmS 1), .string (nmS 2), .string (nmS 3), .string (nmS 4), .string (nmS 5)] 9)).cell? ⟨W.heap.size, k, none⟩ = some (.string (nmS k)) := fun W => names_cell W k hlk
     have HKP := Lib.hid hkp
     have HS := Lib.hid hs
     have hcs := cntP_succ S t k
     have hvs : vwP S D t ++ vwR S D t (k + 1) = vwP S D t ++ vwR S D t k ++ [cellV S D t k] := by rw [vwR_succ, List.append_assoc]
     cases hh : hasS S t (nmS k)
     ·
      rw [hh, if_neg (by decide)] at hcs
      have hcv0 : cellV S D t k = ⟨#[45]⟩ := by unfold cellV; rw [hh]; rfl
      rw [hcv0] at hvs
      have hno : oldS (S.ar t) (nmS k) = none := by unfold hasS at hh; exact Option.not_isSome_iff_eq_none.1 (by rw [hh]; decide)
      have HG := Lib.hid (fun (W : World) (h : Below w.heap.size w W) => HGN.out t k hlt hlk hno W h)
      generalize vwP S D t ++ vwR S D t k = xs at *
      have HV := Lib.hid hvs
      have HC := Lib.hid hcs
      clear hs hkp hb hvs hcs hcv0 hno
      go_wp2_with (first
       | (go_at_call 36; refine (names_ok _).mono ?_; rintro e w3 ⟨rfl, rfl⟩; have hn1 := hnc wr)
       | (go_at_call 32; (with_reducible refine Calls.mono (HG.out _ (HB.out.alloc HB.out.size _)) ?_); rintro e w4 ⟨rfl, z3⟩; have hb4 := (ba (w := wr) (.cells #[.string (nmS 0), .string (nmS 1), .string (nmS 2), .string (nmS 3), .string (nmS 4), .string (nmS 5)] 9)).trans (z3.mono (by simp)); have HS4 := Lib.hid (HS.out.keep (Kp.below (ts := fun _ => False) hb4 0) (fun q => q)); have HK4 := Lib.hid (HKP.out.trans (Kp.below hb4 0)); clear z3 hb4)
       | (at_builtin; refine ow_append strK (W := w4) rfl (.tmp 43) (.tmp 44) 38 9 (.string ⟨#[]⟩) 16 rfl Tryz.underlying38 info9 rfl (by decide) (by decide) s2 xs (⟨#[45]⟩ : ByteArray) [.string (⟨#[45]⟩ : ByteArray)] (tagged wr o2 0) 2 rfl rfl rfl HS4.out (by omega) ?_; intro s1 w5 h5 h6; have HR := Lib.hid (And.intro h5 h6); clear h5 h6; unfold Sl.enc))
      go_roundw
      case rel => exact ⟨k + 1, by omega, by go_num, by rw [HC.out]; rfl, s1, _, rfl, by rw [HV.out]; exact HR.out.1, HK4.out.trans HR.out.2⟩
      case measure => simp [intOf]; omega
     ·
      rw [hh, if_pos rfl] at hcs
      have hcv0 : cellV S D t k = ⟨#[61]⟩ ++ strOfNums (D t (nmS k)) := by unfold cellV; rw [if_pos hh]
      rw [hcv0] at hvs
      have hdl := HDL.out t k hlt hh
      have hds : (strOfNums (D t (nmS k))).size ≤ 131072 := by rw [str_size]; exact hdl
      have HG := Lib.hid (fun (W : World) (h : Below w.heap.size w W) => HGY.out t k hlt hlk hh W h)
      generalize D t (nmS k) = dt at *
      generalize vwP S D t ++ vwR S D t k = xs at *
      have HV := Lib.hid hvs
      have HC := Lib.hid hcs
      clear hs hkp hb hvs hcs hcv0
      go_wp2_with (first
       | (go_at_call 36; refine (names_ok _).mono ?_; rintro e w3 ⟨rfl, rfl⟩; have hn1 := hnc wr)
       | (go_at_call 32; (with_reducible refine Calls.mono (HG.out _ (HB.out.alloc HB.out.size _)) ?_); rintro e w4 ⟨⟨zA, zn, zc⟩, zo, rfl, z1, z2, z3⟩; have hcv := conv_str (w := w4) (c := zc) (ow_len z1).2.2; have hb4 := (ba (w := wr) (.cells #[.string (nmS 0), .string (nmS 1), .string (nmS 2), .string (nmS 3), .string (nmS 4), .string (nmS 5)] 9)).trans (z3.mono (by simp)); have HS4 := Lib.hid (HS.out.keep (Kp.below (ts := fun _ => False) hb4 0) (fun q => q)); have HK4 := Lib.hid (HKP.out.trans (Kp.below hb4 0)); clear z1 z2 z3 hb4; unfold Sl.enc; dsimp only at hcv ⊢)
       | (at_builtin; refine ow_append strK (W := w4) rfl (.tmp 35) (.tmp 39) 38 9 (.string ⟨#[]⟩) 16 rfl Tryz.underlying38 info9 rfl (by decide) (by decide) s2 xs ((⟨#[61]⟩ : ByteArray) ++ strOfNums dt) [.string ((⟨#[61]⟩ : ByteArray) ++ strOfNums dt)] (tagged wr o2 0) 2 rfl rfl rfl HS4.out (by omega) ?_; intro s1 w5 h5 h6; have HR := Lib.hid (And.intro h5 h6); clear h5 h6; unfold Sl.enc))
      go_roundw
      case rel => exact ⟨k + 1, by omega, by go_num, by rw [HC.out]; rfl, s1, _, rfl, by rw [HV.out]; exact HR.out.1, HK4.out.trans HR.out.2⟩
      case measure => simp [intOf]; omega
    ·
     have dk : decide ((k : Int) < 6) = false := by simp; omega
     obtain rfl : k = 6 := by omega
     have hcn := HCN.out t hlt
     have hel := HEL.out t hlt
     have HLL := Lib.hid (HL.out t hlt)
     rw [hcn]
     rw [← vwP_succ] at hs
     have HB := Lib.hid hb
     have HKP := Lib.hid hkp
     have HS := Lib.hid hs
     generalize hee : (S.ar t).ents.length = en at *
     have HEE := Lib.hid hee
     clear hs hkp hb hxl hcb hcn hee
     have hek : ((en : Int) != (en : Int)) = false := by simp
     go_wp2_with (go_at_call 25; (with_reducible refine Calls.mono (HLL.out _ HB.out) ?_); rintro e w5 ⟨⟨zA, zn, zc⟩, zo, l, rfl, z1, z2, z3, z4, z5⟩; obtain rfl : zn = en := ((ow_len z1).1.symm.trans z4.length_eq).trans ((List.length_map _).trans HEE.out); have HZ := Lib.hid z3; clear z1 z2 z3 z4 z5; unfold Sl.enc; dsimp only)
     go_roundw
     case rel => exact ⟨t + 1, by omega, by go_num, s2, _, rfl, HS.out.keep (Kp.below (ts := fun _ => False) HZ.out 0) (fun q => q), HKP.out.trans (Kp.below HZ.out 0)⟩
     case measure => simp [intOf]; omega
  ·
   have dl : decide ((t : Int) + 1 ≤ 8) = false := by simp; omega
   obtain rfl : t = 8 := by omega
   have HE := Lib.hid (show ViewP w (vwP S D 8) (.returned (.tuple #[.slice s.A s.n s.c, .bool true])) wr from ⟨s, o, rfl, hs, fun k hk => (hkp.block k hk (by decide)).1, kp_below hkp (by decide)⟩)
   clear hs hkp
   go_wp2_with fail
   go_ret2
   exact HE.out
end Go.Proofs.YtmofiicjaldmiaaGreatDoor.SwX
end
section
namespace Go.Proofs.YtmofiicjaldmiaaGreatDoor.SwY
open Go.RowKit Go.Shelf YtmofiicjaldmiaaGreatDoorW.PrintWords YtmofiicjaldmiaaGreatDoorW.PrintLast SvA SvB SvC SvD SvE SvF SvG SvH SvI SvJ SvK SvL SvM SvN SvO SvP SvQ SvR SvS SvT SvU SvV SvW SvX SvY SvZ SwA SwB SwC SwD SwE SwF SwG SwI SwJ SwK SwH SwL SwM SwN SwO SwP SwQ SwR SwS SwT SwX
set_option linter.unusedVariables false
set_option linter.unusedSimpArgs false
theorem putR_ar (S : SV) (i : Nat) (name : ByteArray) (data : List Int) (j : Nat) (h : j ≠ i) : (putR S i name data).1.ar j = S.ar j := by
 unfold putR
 split
 ·
  dsimp only
  rw [putS_eq, setE_ar, if_neg h]
  rfl
 · rfl
theorem delR_ar (S : SV) (i : Nat) (name : ByteArray) (j : Nat) (h : j ≠ i) : (delR S i name).1.ar j = S.ar j := by
 unfold delR
 rcases oldS (S.ar i) name with _ | ⟨k, e⟩
 · rfl
 ·
  show (delS S i k e).ar j = _
  rw [delS_eq, setE_ar, if_neg h]
  rfl
theorem doS_ar (S : SV) (a : AC) (most : Int) (j : Nat) (h : j ≠ a.t0) : (doS S a most).1.ar j = S.ar j := by
 unfold doS
 split
 · exact putR_ar _ _ _ _ _ h
 · exact delR_ar _ _ _ _ h
def putA (a : AR) (i : Nat) (name : ByteArray) (data : List Int) : AR := if roomS a data.length then { a with ents := oldE (oldS a name) a.ents ++ [newE a ((i : Int) + 1) name (verN (oldS a name)) data] } else a
def delA (a : AR) (name : ByteArray) : AR := match oldS a name with | none => a | some (k, _) => { a with ents := a.ents.eraseIdx k }
theorem putR_at (S : SV) (i : Nat) (name : ByteArray) (data : List Int) : (putR S i name data).1.ar i = putA (S.ar i) i name data ∧ (putR S i name data).2 = if roomS (S.ar i) data.length then 0 else 112 := by
 unfold putR putA
 cases h : roomS (S.ar i) data.length
 · exact ⟨rfl, rfl⟩
 ·
  simp only [if_true]
  rw [putS_eq, setE_ar, if_pos rfl]
  exact ⟨rfl, trivial⟩
theorem delR_at (S : SV) (i : Nat) (name : ByteArray) : (delR S i name).1.ar i = delA (S.ar i) name ∧ (delR S i name).2 = if (oldS (S.ar i) name).isSome then 0 else 111 := by
 unfold delR delA
 rcases oldS (S.ar i) name with _ | ⟨k, e⟩
 · exact ⟨rfl, rfl⟩
 ·
  dsimp only
  rw [delS_eq, setE_ar, if_pos rfl]
  exact ⟨rfl, rfl⟩
theorem GN.act {S : SV} (h : GN S) (a : AC) (most : Int) : GN (doS S a most).1 := by
 intro t ht e he
 by_cases hj : t = a.t0
 ·
  subst hj
  unfold doS at he
  cases hp : a.puts
  ·
   rw [hp, if_neg (by decide), (delR_at _ _ _).1] at he
   unfold delA at he
   rcases ho : oldS (S.ar a.t0) a.name with _ | ⟨k, e'⟩
   · rw [ho] at he; exact h _ ht e he
   ·
    rw [ho] at he
    exact h _ ht e (List.mem_of_mem_eraseIdx he)
  ·
   rw [hp, if_pos rfl, (putR_at _ _ _ _).1] at he
   unfold putA at he
   split at he
   ·
    dsimp only at he
    rcases List.mem_append.1 he with he | he
    ·
     refine h _ ht e ?_
     generalize oldS (S.ar a.t0) a.name = od at he
     rcases od with _ | ⟨k, e'⟩
     · exact he
     · exact List.mem_of_mem_eraseIdx he
    ·
     simp at he
     subst he
     exact ⟨a.n0, a.n0_lt.1, rfl⟩
   · exact h _ ht e he
 ·
  rw [doS_ar S a most t hj] at he
  exact h t ht e he
theorem GN.start (b : BS) : GN (S0 b) := fun t _ e he => by cases he
theorem vwP_at (S : SV) (D : Nat → ByteArray → List Int) (k : Nat) : ∀ (t n : Nat), n < 6 → t < k → (vwP S D k)[6 * t + n]? = some (cellV S D t n) := by
 induction k with
 | zero => intro t n _ h; omega
 | succ k ih =>
  intro t n hn ht
  rw [vwP_succ]
  by_cases h : t < k
  ·
   rw [List.getElem?_append_left (by rw [vwP_len]; omega)]
   exact ih t n hn h
  ·
   obtain rfl : t = k := by omega
   rw [List.getElem?_append_right (by rw [vwP_len]; omega), vwP_len, show 6 * t + n - 6 * t = n by omega]
   unfold vwR
   rw [List.getElem?_map, List.getElem?_range hn]
   rfl
structure ApR (S T : SV) (D E : Nat → ByteArray → List Int) (t : Nat) : Prop where
 ar : S.ar t = T.ar t
 d : D t = E t
end Go.Proofs.YtmofiicjaldmiaaGreatDoor.SwY
end
section
namespace Go.Proofs.YtmofiicjaldmiaaGreatDoor.SxA
open Go.RowKit Go.Shelf YtmofiicjaldmiaaGreatDoorW.PrintWords YtmofiicjaldmiaaGreatDoorW.PrintLast SvA SvB SvC SvD SvE SvF SvG SvH SvI SvJ SvK SvL SvM SvN SvO SvP SvQ SvR SvS SvT SvU SvV SvW SvX SvY SvZ SwA SwB SwC SwD SwE SwF SwG SwI SwJ SwK SwH SwL SwM SwN SwO SwP SwQ SwR SwS SwT SwX
set_option linter.unusedVariables false
set_option linter.unusedSimpArgs false
open Go.Lib
def SsAt (w : World) (A : Option Addr) (l : List ByteArray) : Prop := ∀ (j : Nat) (x : ByteArray), l[j]? = some x → ∃ zb, A = some ⟨zb, 0, none⟩ ∧ w.cell? ⟨zb, j, none⟩ = some (.string x)
theorem SsAt.below {w w' : World} {A : Option Addr} {l : List ByteArray} (h : SsAt w A l) (hb : Below w.heap.size w w') : SsAt w' A l := fun j x hx => by
 obtain ⟨zb, h1, h2⟩ := h j x hx
 exact ⟨zb, h1, cellOf hb h2⟩
theorem ss_of {w : World} {o : Nat → Nat} {t : Nat} {z : Sl} {l : List ByteArray} (h : Ow strK 9 w o t z l) : SsAt w z.A l := fun j x hx => by
 have hn := (ow_len h).1
 have hj := (List.getElem?_eq_some_iff.1 hx).1
 obtain ⟨zb, hz⟩ := ow_head h (by omega)
 obtain ⟨A, n, c⟩ := z
 injection hz with hA _ _
 subst hA
 obtain ⟨c1, _, _⟩ := ow_cell (enc := Value.string) (h1 := fun _ => rfl) h j x hx
 exact ⟨zb, rfl, c1⟩
theorem toList_inj {a b : ByteArray} (h : a.toList = b.toList) : a = b := by
 rw [ByteArray.toList_eq, ByteArray.toList_eq] at h
 cases a with | mk x => cases b with | mk y =>
 rw [Array.toList_inj] at h
 rw [show x = y from h]
theorem toList_beq (a b : ByteArray) : (a.toList == b.toList) = (a == b) := by
 rw [Bool.eq_iff_iff, ba_beq, beq_iff_eq]
 exact ⟨toList_inj, fun h => by rw [h]⟩
set_option maxRecDepth 100000 in
set_option maxHeartbeats 1000000 in
theorem same_ok (w : World) (A B : Option Addr) (c d : Nat) (xs ys : List ByteArray) (hA : SsAt w A xs) (hB : SsAt w B ys) (hx : xs.length < 1000) (hy : ys.length < 1000) :
  Calls Tryz.prog 33 #[.slice A xs.length c, .slice B ys.length d] w fun e w' => e = .returned (.bool (decide (xs = ys))) ∧ Below w.heap.size w w' := by
 by_cases hl : xs.length = ys.length
 ·
  have dl : ((xs.length : Int) != (ys.length : Int)) = false := by simp; omega
  have HA := Lib.hid hA
  have HB := Lib.hid hB
  have HL := Lib.hid hl
  clear hA hB hl
  go_enter Tryz.func33, Tryz.ntmps33
  go_wp2_with fail
  go_loopw [5] (fun v wr => ∃ k : Nat, k ≤ xs.length ∧ v = .int .i64 (k : Int) ∧ xs.take k = ys.take k ∧ Below w.heap.size w wr) (fun v _ => xs.length - (intOf v).toNat)
  case atStart => exact ⟨0, by omega, rfl, rfl, Below.refl _ _⟩
  case round =>
   obtain ⟨k, hk, rfl, ht, hb⟩ := hrel
   have HT := Lib.hid ht
   clear ht
   by_cases hlt : k < xs.length
   ·
    have dk : decide ((k : Int) < (xs.length : Int)) = true := by simp; omega
    have hk1 : (k : Int) < (xs.length : Int) := by omega
    have hk2 : (k : Int) < (ys.length : Int) := by have := HL.out; omega
    have hk0 : (0 : Int) ≤ (k : Int) := by omega
    obtain ⟨x, hxk⟩ : ∃ x, xs[k]? = some x := ⟨_, List.getElem?_eq_getElem hlt⟩
    obtain ⟨y, hyk⟩ : ∃ y, ys[k]? = some y := ⟨_, List.getElem?_eq_getElem (by omega)⟩
    obtain ⟨zb, hzA, z0⟩ := (HA.out.below hb) k x hxk
    obtain ⟨ub, huA, u0⟩ := (HB.out.below hb) k y hyk
    subst hzA
    subst huA
    have HBD := Lib.hid hb.drew
    have HXY := Lib.hid (And.intro hxk hyk)
    have hcv := toList_beq x y
    clear hxk hyk hb
    go_upto_region 6 with (fail)
    refine start_ (n := 9) (S := fun w' => w'.cell? ⟨zb, k, none⟩ = some (.string x) ∧ w'.cell? ⟨ub, k, none⟩ = some (.string y)) (ds := []) #[false, false, false, false, false, false, false, false, false] (by kernel_rfl) rfl rfl ⟨z0, u0⟩ (fun hHeld => ?_)
    refine pu_ (i := 0) (N := some 17) (v := ?_) (a' := ?_) rfl rfl (by kernel_rfl) (fun _ _ _ h => h) (by rfl) ?_ ?_ ?_
    rotate_left
    · (intro w'; go_simp; with_reducible rfl)
    rotate_left
    · (simp only [put_s, List.set, i64_w, i32_w]; rfl)
    refine pu_ (i := 1) (N := some 18) (v := ?_) (a' := ?_) rfl rfl (by kernel_rfl) (fun _ _ _ h => h) (by rfl) ?_ ?_ ?_
    rotate_left
    · (intro w'; go_simp; with_reducible rfl)
    rotate_left
    · (simp only [put_s, List.set, i64_w, i32_w]; rfl)
    refine pu_ (i := 2) (N := some 19) (v := ?_) (a' := ?_) rfl rfl (by kernel_rfl) (fun _ _ _ h => h) (by rfl) ?_ ?_ ?_
    rotate_left
    · (intro w'; go_simp; with_reducible rfl)
    rotate_left
    · (simp only [put_s, List.set, i64_w, i32_w]; rfl)
    refine tk_ (i := 3) (N := some 20) (v := ?_) (a' := ?_) rfl rfl (by kernel_rfl) (fun _ _ _ h => h) (by rfl) ?_ hHeld ?_ ?_
    rotate_left
    ·
     intro w' s0
     obtain ⟨q1, q2⟩ := s0
     go_simp
     with_reducible rfl
    rotate_left
    · (simp only [put_s, List.set, i64_w, i32_w]; rfl)
    refine pu_ (i := 4) (N := some 21) (v := ?_) (a' := ?_) rfl rfl (by kernel_rfl) (fun _ _ _ h => h) (by rfl) ?_ ?_ ?_
    rotate_left
    · (intro w'; go_simp; with_reducible rfl)
    rotate_left
    · (simp only [put_s, List.set, i64_w, i32_w]; rfl)
    refine pu_ (i := 5) (N := some 22) (v := ?_) (a' := ?_) rfl rfl (by kernel_rfl) (fun _ _ _ h => h) (by rfl) ?_ ?_ ?_
    rotate_left
    · (intro w'; go_simp; with_reducible rfl)
    rotate_left
    · (simp only [put_s, List.set, i64_w, i32_w]; rfl)
    refine pu_ (i := 6) (N := some 23) (v := ?_) (a' := ?_) rfl rfl (by kernel_rfl) (fun _ _ _ h => h) (by rfl) ?_ ?_ ?_
    rotate_left
    · (intro w'; go_simp; with_reducible rfl)
    rotate_left
    · (simp only [put_s, List.set, i64_w, i32_w]; rfl)
    refine tk_ (i := 7) (N := some 24) (v := ?_) (a' := ?_) rfl rfl (by kernel_rfl) (fun _ _ _ h => h) (by rfl) ?_ hHeld ?_ ?_
    rotate_left
    ·
     intro w' s0
     obtain ⟨q1, q2⟩ := s0
     go_simp
     with_reducible rfl
    rotate_left
    · (simp only [put_s, List.set, i64_w, i32_w]; rfl)
    refine pu_ (i := 8) (N := some 25) (v := ?_) (a' := ?_) rfl rfl (by kernel_rfl) (fun _ _ _ h => h) (by rfl) ?_ ?_ ?_
    rotate_left
    · (intro w'; go_simp; with_reducible rfl)
    rotate_left
    · (simp only [put_s, List.set, i64_w, i32_w]; rfl)
    refine done_ (by kernel_rfl) ?_
    clear hHeld
    by_cases he : x = y
    ·
     have hne : (!x == y) = false := by rw [(ba_beq _ _).2 he]; rfl
     clear hcv
     go_wp2_with fail
     all_goals first | (rename_i h1; exact absurd (hne.symm.trans h1) (by decide)) | skip
     refine ⟨⟨k + 1, by omega, by go_num, ?_, HBD.out⟩, by simp [intOf]; omega⟩
     obtain ⟨a1, a2⟩ := List.getElem?_eq_some_iff.1 HXY.out.1
     obtain ⟨b1, b2⟩ := List.getElem?_eq_some_iff.1 HXY.out.2
     rw [List.take_succ_eq_append_getElem a1, List.take_succ_eq_append_getElem b1, HT.out, a2, b2, he]
    ·
     have hne : (!x == y) = true := by rw [bax he]; rfl
     have hd : decide (xs = ys) = false := decide_eq_false (fun h => he (by have := HXY.out.1; rw [h, HXY.out.2] at this; injection this with this; exact this.symm))
     have HD := Lib.hid hd
     clear hcv hd
     go_wp2_with fail
     all_goals first | (rename_i h1; exact absurd (hne.symm.trans h1) (by decide)) | skip
     go_ret
     exact ⟨ret_bool HD.out.symm, HBD.out⟩
   ·
    have dk : decide ((k : Int) < (xs.length : Int)) = false := by simp; omega
    have hd : decide (xs = ys) = true := decide_eq_true (by
     have h1 := HT.out
     rw [List.take_of_length_le (by omega), List.take_of_length_le (by have := HL.out; omega)] at h1
     exact h1)
    have HD := Lib.hid hd
    clear hd
    go_wp2_with fail
    go_ret
    exact ⟨ret_bool HD.out.symm, hb⟩
 ·
  have dl : ((xs.length : Int) != (ys.length : Int)) = true := by simp; omega
  have hd : decide (xs = ys) = false := decide_eq_false (fun h => hl (by rw [h]))
  rw [hd]
  clear hA hB
  go_enter Tryz.func33, Tryz.ntmps33
  go_wp2_with fail
  go_ret
  exact ⟨rfl, Below.refl _ _⟩
end Go.Proofs.YtmofiicjaldmiaaGreatDoor.SxA
end
section
namespace Go.Proofs.YtmofiicjaldmiaaGreatDoor.SyA
open Go.RowKit Go.Shelf YtmofiicjaldmiaaGreatDoorW.PrintWords YtmofiicjaldmiaaGreatDoorW.PrintLast SvA SvB SvC SvD SvE SvF SvG SvH SvI SvJ SvK SvL SvM SvN SvO SvP SvQ SvR SvS SvT SvU SvV SvW SvX SvY SvZ SwA SwB SwC SwD SwE SwF SwG SwI SwJ SwK SwH SwL SwM SwN SwO SwP SwQ SwR SwS SwT SwX SwY SxA
set_option linter.unusedVariables false
set_option linter.unusedSimpArgs false
open Go.Lib
def subB (xs : List Int) (o n : Nat) : List Int := (xs.drop o).take n
def hdOf (xs : List Int) (ten : Int) : HD := ⟨ten, strOfNums (subB xs 4 (rd xs 3).toNat), unle (subB xs 20 4), unle (subB xs 24 4), unle (subB xs 28 4), unle (subB xs 32 2)⟩
def hdOk (xs : List Int) (ten : Int) : Bool := decide (rd xs 3 ≤ 16) && (nameOk (hdOf xs ten).name && decide (0 < (hdOf xs ten).ver) && decide ((hdOf xs ten).size ≤ 131072) && decide (headS (hdOf xs ten) 1 = xs))
theorem subB_u8 {xs : List Int} (h : u8s xs) (o n : Nat) : u8s (subB xs o n) := fun y hy => h y (List.mem_of_mem_drop (List.mem_of_mem_take hy))
theorem subB_len {xs : List Int} {o n : Nat} (h : o + n ≤ xs.length) : (subB xs o n).length = n := by unfold subB; rw [List.length_take, List.length_drop]; omega
theorem str_inj {xs ys : List Int} (hx : u8s xs) (hy : u8s ys) : (strOfNums xs == strOfNums ys) = decide (xs = ys) := by
 rw [Bool.eq_iff_iff, ba_beq, decide_eq_true_eq]
 constructor
 ·
  intro h
  unfold strOfNums at h
  injection h with h
  have h2 := congrArg Array.toList h
  simp only at h2
  have key : ∀ (l m : List Int), u8s l → u8s m → l.map (fun n => UInt8.ofNat n.toNat) = m.map (fun n => UInt8.ofNat n.toNat) → l = m := by
   intro l
   induction l with
   | nil => intro m _ _ h; cases m with
    | nil => rfl
    | cons y m => simp at h
   | cons x l ih =>
    intro m h1 h2 h
    cases m with
    | nil => simp at h
    | cons y m =>
     simp only [List.map_cons, List.cons.injEq] at h
     obtain ⟨h3, h4⟩ := h
     have a := h1 x List.mem_cons_self
     have b := h2 y List.mem_cons_self
     have e := congrArg UInt8.toNat h3
     simp only [UInt8.toNat_ofNat'] at e
     rw [ih m (fun z hz => h1 z (List.mem_cons_of_mem _ hz)) (fun z hz => h2 z (List.mem_cons_of_mem _ hz)) h4]
     have : x = y := by omega
     rw [this]
  exact key xs ys hx hy h2
 ·
  intro h
  rw [h]
theorem equal_ok (w : World) (A B : Option Addr) (n m c d : Nat) (xs ys : List Int) (hx : BytesAt w A n xs) (hy : BytesAt w B m ys) (ux : u8s xs) (uy : u8s ys) : Calls Tryz.prog 158 #[.slice A n c, .slice B m d] w fun e w' => e = .returned (.bool (decide (xs = ys))) ∧ w = w' := by
 have h1 := conv_str (w := w) (c := c) hx
 have h2 := conv_str (w := w) (c := d) hy
 have h3 := str_inj ux uy
 generalize strOfNums xs = s at *
 generalize strOfNums ys = u at *
 go_enter Tryz.func158, Tryz.ntmps158
 go_wp2_with fail
 go_ret
 refine ⟨?_, rfl⟩
 rw [← h3]
 exact ret_bool (toList_beq _ _)
theorem set6 {W : World} {g : Nat} {c0 c1 c2 c3 c4 c5 : Value} {t : TypeId} (h : Blk W g #[c0, c1, c2, c3, c4, c5] t) (v0 v1 v2 v3 v4 v5 : Value) :
  Blk ((((((W.setCell ⟨g, 0, none⟩ v0).setCell ⟨g, 1, none⟩ v1).setCell ⟨g, 2, none⟩ v2).setCell ⟨g, 3, none⟩ v3).setCell ⟨g, 4, none⟩ v4).setCell ⟨g, 5, none⟩ v5) g #[v0, v1, v2, v3, v4, v5] t :=
 Blk.set (i := 5) (Blk.set (i := 4) (Blk.set (i := 3) (Blk.set (i := 2) (Blk.set (i := 1) (Blk.set (i := 0) h v0) v1) v2) v3) v4) v5
theorem below6 {W w : World} {B g : Nat} (h : Below B w W) (hg : B ≤ g) (v0 v1 v2 v3 v4 v5 : Value) :
  Below B w ((((((W.setCell ⟨g, 0, none⟩ v0).setCell ⟨g, 1, none⟩ v1).setCell ⟨g, 2, none⟩ v2).setCell ⟨g, 3, none⟩ v3).setCell ⟨g, 4, none⟩ v4).setCell ⟨g, 5, none⟩ v5) :=
 (((((h.setCell (p := ⟨g, 0, none⟩) hg _).setCell (p := ⟨g, 1, none⟩) hg _).setCell (p := ⟨g, 2, none⟩) hg _).setCell (p := ⟨g, 3, none⟩) hg _).setCell (p := ⟨g, 4, none⟩) hg _).setCell (p := ⟨g, 5, none⟩) hg _
set_option maxRecDepth 100000 in
set_option maxHeartbeats 4000000 in
theorem readHead_ok (w : World) (d : Addr) (xs : List Int) (HX : BytesAt w (some d) 512 xs) (hu : u8s xs) (ten : Int) (ht : 0 ≤ ten ∧ ten < 256) :
    Calls Tryz.prog 126 #[.slice (some d) 512 512, .int .i64 ten] w fun e w' => (∃ h : HD, e = .returned (.tuple #[h.enc, .bool (hdOk xs ten)]) ∧ (hdOk xs ten = true → h = hdOf xs ten)) ∧ Below w.heap.size w w' := by
  have hxl : xs.length = 512 := HX.1
  have hB1 := ba (w := w) (.cells #[.int .i64 0, .string ⟨#[]⟩, .int .u32 0, .int .i64 0, .int .u32 0, .int .i64 0] 105)
  have bb : Blk (w.alloc (.cells #[.int .i64 0, .string ⟨#[]⟩, .int .u32 0, .int .i64 0, .int .u32 0, .int .i64 0] 105)) w.heap.size #[.int .i64 0, .string ⟨#[]⟩, .int .u32 0, .int .i64 0, .int .u32 0, .int .i64 0] 105 := blkNew rfl
  go_enter Tryz.func126, Tryz.ntmps126
  go_upto_region 1 with (fail)
  generalize w.alloc (.cells #[.int .i64 0, .string ⟨#[]⟩, .int .u32 0, .int .i64 0, .int .u32 0, .int .i64 0] 105) = W1 at *
  have HX1 := HX.below (B := 0) hB1
  have HX0 := Lib.hid HX
  have hg : ∀ (o n : Nat), 0 < o → n ≤ 4 → o + n ≤ 512 → ∀ W, Below W1.heap.size W1 W → Calls Tryz.prog 105 #[.slice (some ⟨d.block, d.off + o, none⟩) n (512 - o)] W fun e w' => e = .returned (.int .u32 (unle (subB xs o n))) ∧ W = w' := fun o n h1 h2 h3 W hW => get_ok W _ n (512 - o) (subB xs o n) (cut_at (HX1.below (B := 0) hW) o n h1 h3) (subB_u8 hu o n) h2 (by omega)
  have HG20 := Lib.hid (hg 20 4 (by omega) (by omega) (by omega))
  have HG24 := Lib.hid (hg 24 4 (by omega) (by omega) (by omega))
  have HG28 := Lib.hid (hg 28 4 (by omega) (by omega) (by omega))
  have HG32 := Lib.hid (hg 32 2 (by omega) (by omega) (by omega))
  have hv : ∀ (o n : Nat), o + n ≤ 512 → n ≤ 4 → 0 ≤ unle (subB xs o n) ∧ unle (subB xs o n) < 256 ^ n := fun o n h1 h2 => by
    have := unle_lt (subB_u8 hu o n)
    rwa [subB_len (by omega)] at this
  have hv1 := hv 20 4 (by omega) (by omega)
  have hv2 := hv 24 4 (by omega) (by omega)
  have hv3 := hv 28 4 (by omega) (by omega)
  have hv4 := hv 32 2 (by omega) (by omega)
  rw [show (256 : Int) ^ 4 = 4294967296 by decide] at hv1 hv2 hv3
  rw [show (256 : Int) ^ 2 = 65536 by decide] at hv4
  have hof : hdOf xs ten = ⟨ten, strOfNums (subB xs 4 (rd xs 3).toNat), unle (subB xs 20 4), unle (subB xs 24 4), unle (subB xs 28 4), unle (subB xs 32 2)⟩ := rfl
  have hok : hdOk xs ten = (decide (rd xs 3 ≤ 16) && (nameOk (hdOf xs ten).name && decide (0 < (hdOf xs ten).ver) && decide ((hdOf xs ten).size ≤ 131072) && decide (headS (hdOf xs ten) 1 = xs))) := rfl
  generalize unle (subB xs 20 4) = v1 at *
  generalize unle (subB xs 24 4) = v2 at *
  generalize unle (subB xs 28 4) = v3 at *
  generalize unle (subB xs 32 2) = v4 at *
  have HB0 := Lib.hid (show Below W1.heap.size W1 W1.drew from (Below.refl _ _).drew)
  have HB1 := Lib.hid (show Below W1.heap.size W1 (W1.drew.alloc (.cells #[.int .i64 0, .string ⟨#[]⟩, .int .u32 0, .int .i64 0, .int .u32 0, .int .i64 0] 105)) from (Below.refl _ _).drew.alloc (Nat.le_refl _) _)
  have HOF := Lib.hid hof
  have HOK := Lib.hid hok
  have HXX := Lib.hid HX1
  have HBB := Lib.hid bb
  have HB := Lib.hid hB1
  clear hg hv hof hok HX HX1 bb hB1
  refine start_ (n := 18) (S := fun _ => True) (ds := [17]) #[false, false, false, false, false, false, false, false, false, false, false, false, false, false, false, false, false, false] (by kernel_rfl) rfl rfl trivial (fun hHeld => ?_)
  refine pure_ (i := 0) (N := some 9) (v := ?_) (a' := ?_) #[true, false, false, false, false, false, false, false, false, false, false, false, false, false, false, false, false, false] rfl rfl (by kernel_rfl) (fun _ _ _ h => h) (Or.inl ⟨by rfl, ?_⟩) ?_ ?_
  rotate_left
  · (intro w'; go_simp; with_reducible rfl)
  rotate_left
  · (simp only [put_s, List.set, i64_w, i32_w]; rfl)
  refine pure_ (i := 1) (N := some 10) (v := ?_) (a' := ?_) #[true, true, false, false, false, false, false, false, false, false, false, false, false, false, false, false, false, false] rfl rfl (by kernel_rfl) (fun _ _ _ h => h) (Or.inl ⟨by rfl, ?_⟩) ?_ ?_
  rotate_left
  · (intro w'; go_simp; with_reducible rfl)
  rotate_left
  · (simp only [put_s, List.set, i64_w, i32_w]; rfl)
  refine pure_ (i := 2) (N := some 11) (v := ?_) (a' := ?_) #[true, true, true, false, false, false, false, false, false, false, false, false, false, false, false, false, false, false] rfl rfl (by kernel_rfl) (fun _ _ _ h => h) (Or.inl ⟨by rfl, ?_⟩) ?_ ?_
  rotate_left
  · (intro w'; go_simp; with_reducible rfl)
  rotate_left
  · (simp only [put_s, List.set, i64_w, i32_w]; rfl)
  refine pure_ (i := 4) (N := some 13) (v := ?_) (a' := ?_) #[true, true, true, false, true, false, false, false, false, false, false, false, false, false, false, false, false, false] rfl rfl (by kernel_rfl) (fun _ _ _ h => h) (Or.inl ⟨by rfl, ?_⟩) ?_ ?_
  rotate_left
  · (intro w'; go_simp; with_reducible rfl)
  rotate_left
  · (simp only [put_s, List.set, i64_w, i32_w]; rfl)
  refine pure_ (i := 5) (N := some 14) (v := ?_) (a' := ?_) #[true, true, true, false, true, true, false, false, false, false, false, false, false, false, false, false, false, false] rfl rfl (by kernel_rfl) (fun _ _ _ h => h) (Or.inl ⟨by rfl, ?_⟩) ?_ ?_
  rotate_left
  · (intro w'; go_simp; with_reducible rfl)
  rotate_left
  · (simp only [put_s, List.set, i64_w, i32_w]; rfl)
  refine pure_ (i := 8) (N := some 17) (v := ?_) (a' := ?_) #[true, true, true, false, true, true, false, false, true, false, false, false, false, false, false, false, false, false] rfl rfl (by kernel_rfl) (fun _ _ _ h => h) (Or.inl ⟨by rfl, ?_⟩) ?_ ?_
  rotate_left
  · (intro w'; go_simp; with_reducible rfl)
  rotate_left
  · (simp only [put_s, List.set, i64_w, i32_w]; rfl)
  refine pure_ (i := 9) (N := some 18) (v := ?_) (a' := ?_) #[true, true, true, false, true, true, false, false, true, true, false, false, false, false, false, false, false, false] rfl rfl (by kernel_rfl) (fun _ _ _ h => h) (Or.inl ⟨by rfl, ?_⟩) ?_ ?_
  rotate_left
  · (intro w'; go_simp; with_reducible rfl)
  rotate_left
  · (simp only [put_s, List.set, i64_w, i32_w]; rfl)
  refine pure_ (i := 11) (N := some 20) (v := ?_) (a' := ?_) #[true, true, true, false, true, true, false, false, true, true, false, true, false, false, false, false, false, false] rfl rfl (by kernel_rfl) (fun _ _ _ h => h) (Or.inl ⟨by rfl, ?_⟩) ?_ ?_
  rotate_left
  · (intro w'; go_simp; with_reducible rfl)
  rotate_left
  · (simp only [put_s, List.set, i64_w, i32_w]; rfl)
  refine pure_ (i := 12) (N := some 21) (v := ?_) (a' := ?_) #[true, true, true, false, true, true, false, false, true, true, false, true, true, false, false, false, false, false] rfl rfl (by kernel_rfl) (fun _ _ _ h => h) (Or.inl ⟨by rfl, ?_⟩) ?_ ?_
  rotate_left
  · (intro w'; go_simp; with_reducible rfl)
  rotate_left
  · (simp only [put_s, List.set, i64_w, i32_w]; rfl)
  refine join_ 1 #[true, true, true, true, true, true, true, true, true, true, true, true, true, true, true, true, true, false] (fun (_u : Unit) => [(12, .int .u32 v1), (15, .int .u32 v2), (16, .int .i64 (wrap64 v2)), (19, .int .u32 v3), (22, .int .u32 v4), (23, .int .i64 (wrap64 v4)), (24, .agg #[.int .i64 ten, .string ⟨#[]⟩, .int .u32 v1, .int .i64 (wrap64 v2), .int .u32 v3, .int .i64 (wrap64 v4)]), (6, pt W1.drew.heap.size)]) (fun (_u : Unit) w' => w' = (W1.drew.alloc (.cells #[.int .i64 0, .string ⟨#[]⟩, .int .u32 0, .int .i64 0, .int .u32 0, .int .i64 0] 105))) ?_ ?_
  rotate_left
  · intro hJ
    have hJ2 := hJ () _ rfl
    simp only [putAll, Act.put, List.setIfInBounds_toArray, List.set_cons_zero, List.set_cons_succ] at hJ2
    clear hJ
    refine two_ (i := 3) (j := 16) (Ni := some 12) (Nj := some 6) #[true, true, true, true, true, true, false, false, true, true, false, true, true, false, false, false, false, false] #[true, true, true, false, true, true, false, false, true, true, false, true, true, false, false, false, true, false] rfl rfl rfl rfl (by kernel_rfl) (by decide) (by decide) (fun K hK => ?_) (fun K hK => ?_)
    · refine goes_ Tryz.func105 (by kernel_rfl) rfl #[.slice (some ⟨d.block, d.off + 20, none⟩) 4 492] (by rfl) rfl rfl (by first | rfl | (simp [Act.eval])) ?_
      refine Calls.mono (HG20.out _ HB0.out) ?_
      rintro e w' ⟨rfl, rfl⟩
      refine ⟨_, rfl, ?_⟩
      refine hK.out _ _ trivial (fun hHeld => ?_)
      clear hK K
      refine norm_ (a' := ?_) ?_ ?_
      rotate_left
      · show Act.put _ (some 12) _ = _
        simp only [put_s, List.set, i64_w, i32_w]
        rfl
      refine two_ (i := 6) (j := 16) (Ni := some 15) (Nj := some 6) #[true, true, true, true, true, true, true, false, true, true, false, true, true, false, false, false, false, false] #[true, true, true, true, true, true, false, false, true, true, false, true, true, false, false, false, true, false] rfl rfl rfl rfl (by kernel_rfl) (by decide) (by decide) (fun K hK => ?_) (fun K hK => ?_)
      · refine goes_ Tryz.func105 (by kernel_rfl) rfl #[.slice (some ⟨d.block, d.off + 24, none⟩) 4 488] (by rfl) rfl rfl (by first | rfl | (simp [Act.eval])) ?_
        refine Calls.mono (HG24.out _ HB0.out) ?_
        rintro e w' ⟨rfl, rfl⟩
        refine ⟨_, rfl, ?_⟩
        refine hK.out _ _ trivial (fun hHeld => ?_)
        clear hK K
        refine norm_ (a' := ?_) ?_ ?_
        rotate_left
        · show Act.put _ (some 15) _ = _
          simp only [put_s, List.set, i64_w, i32_w]
          rfl
        refine pure_ (i := 7) (N := some 16) (v := ?_) (a' := ?_) #[true, true, true, true, true, true, true, true, true, true, false, true, true, false, false, false, false, false] rfl rfl (by kernel_rfl) (fun _ _ _ h => h) (Or.inl ⟨by rfl, ?_⟩) ?_ ?_
        rotate_left
        · (intro w'; go_simp; with_reducible rfl)
        rotate_left
        · (simp only [put_s, List.set, i64_w, i32_w]; rfl)
        refine two_ (i := 10) (j := 16) (Ni := some 19) (Nj := some 6) #[true, true, true, true, true, true, true, true, true, true, true, true, true, false, false, false, false, false] #[true, true, true, true, true, true, true, true, true, true, false, true, true, false, false, false, true, false] rfl rfl rfl rfl (by kernel_rfl) (by decide) (by decide) (fun K hK => ?_) (fun K hK => ?_)
        · refine goes_ Tryz.func105 (by kernel_rfl) rfl #[.slice (some ⟨d.block, d.off + 28, none⟩) 4 484] (by rfl) rfl rfl (by first | rfl | (simp [Act.eval])) ?_
          refine Calls.mono (HG28.out _ HB0.out) ?_
          rintro e w' ⟨rfl, rfl⟩
          refine ⟨_, rfl, ?_⟩
          refine hK.out _ _ trivial (fun hHeld => ?_)
          clear hK K
          refine norm_ (a' := ?_) ?_ ?_
          rotate_left
          · show Act.put _ (some 19) _ = _
            simp only [put_s, List.set, i64_w, i32_w]
            rfl
          refine two_ (i := 13) (j := 16) (Ni := some 22) (Nj := some 6) #[true, true, true, true, true, true, true, true, true, true, true, true, true, true, false, false, false, false] #[true, true, true, true, true, true, true, true, true, true, true, true, true, false, false, false, true, false] rfl rfl rfl rfl (by kernel_rfl) (by decide) (by decide) (fun K hK => ?_) (fun K hK => ?_)
          · refine goes_ Tryz.func105 (by kernel_rfl) rfl #[.slice (some ⟨d.block, d.off + 32, none⟩) 2 480] (by rfl) rfl rfl (by first | rfl | (simp [Act.eval])) ?_
            refine Calls.mono (HG32.out _ HB0.out) ?_
            rintro e w' ⟨rfl, rfl⟩
            refine ⟨_, rfl, ?_⟩
            refine hK.out _ _ trivial (fun hHeld => ?_)
            clear hK K
            refine norm_ (a' := ?_) ?_ ?_
            rotate_left
            · show Act.put _ (some 22) _ = _
              simp only [put_s, List.set, i64_w, i32_w]
              rfl
            refine pure_ (i := 14) (N := some 23) (v := ?_) (a' := ?_) #[true, true, true, true, true, true, true, true, true, true, true, true, true, true, true, false, false, false] rfl rfl (by kernel_rfl) (fun _ _ _ h => h) (Or.inl ⟨by rfl, ?_⟩) ?_ ?_
            rotate_left
            · (intro w'; go_simp; with_reducible rfl)
            rotate_left
            · (simp only [put_s, List.set, i64_w, i32_w]; rfl)
            refine pure_ (i := 15) (N := some 24) (v := ?_) (a' := ?_) #[true, true, true, true, true, true, true, true, true, true, true, true, true, true, true, true, false, false] rfl rfl (by kernel_rfl) (fun _ _ _ h => h) (Or.inl ⟨by rfl, ?_⟩) ?_ ?_
            rotate_left
            · (intro w'; go_simp; with_reducible rfl)
            rotate_left
            · (simp only [put_s, List.set, i64_w, i32_w]; rfl)
            refine one_ (i := 16) (N := some 6) #[true, true, true, true, true, true, true, true, true, true, true, true, true, true, true, true, true, false] rfl rfl (by kernel_rfl) (by decide) (fun K hK => ?_)
            refine value_ (v := pt W1.drew.heap.size) (w1 := (W1.drew.alloc (.cells #[.int .i64 0, .string ⟨#[]⟩, .int .u32 0, .int .i64 0, .int .u32 0, .int .i64 0] 105))) (by rfl) rfl (by go_simp) ?_
            refine hK.out _ _ trivial (fun hHeld => ?_)
            clear hK K
            refine norm_ (a' := ?_) ?_ ?_
            rotate_left
            · show Act.put _ (some 6) _ = _
              simp only [put_s, List.set, i64_w, i32_w]
              rfl
            exact hJ2
          · refine value_ (v := pt W1.drew.heap.size) (w1 := (W1.drew.alloc (.cells #[.int .i64 0, .string ⟨#[]⟩, .int .u32 0, .int .i64 0, .int .u32 0, .int .i64 0] 105))) (by rfl) rfl (by go_simp) ?_
            refine hK.out _ _ trivial (fun hHeld => ?_)
            clear hK K
            refine norm_ (a' := ?_) ?_ ?_
            rotate_left
            · show Act.put _ (some 6) _ = _
              simp only [put_s, List.set, i64_w, i32_w]
              rfl
            refine one_ (i := 13) (N := some 22) #[true, true, true, true, true, true, true, true, true, true, true, true, true, true, false, false, true, false] rfl rfl (by kernel_rfl) (by decide) (fun K hK => ?_)
            refine goes_ Tryz.func105 (by kernel_rfl) rfl #[.slice (some ⟨d.block, d.off + 32, none⟩) 2 480] (by rfl) rfl rfl (by first | rfl | (simp [Act.eval])) ?_
            refine Calls.mono (HG32.out _ HB1.out) ?_
            rintro e w' ⟨rfl, rfl⟩
            refine ⟨_, rfl, ?_⟩
            refine hK.out _ _ trivial (fun hHeld => ?_)
            clear hK K
            refine norm_ (a' := ?_) ?_ ?_
            rotate_left
            · show Act.put _ (some 22) _ = _
              simp only [put_s, List.set, i64_w, i32_w]
              rfl
            refine pure_ (i := 14) (N := some 23) (v := ?_) (a' := ?_) #[true, true, true, true, true, true, true, true, true, true, true, true, true, true, true, false, true, false] rfl rfl (by kernel_rfl) (fun _ _ _ h => h) (Or.inl ⟨by rfl, ?_⟩) ?_ ?_
            rotate_left
            · (intro w'; go_simp; with_reducible rfl)
            rotate_left
            · (simp only [put_s, List.set, i64_w, i32_w]; rfl)
            refine pure_ (i := 15) (N := some 24) (v := ?_) (a' := ?_) #[true, true, true, true, true, true, true, true, true, true, true, true, true, true, true, true, true, false] rfl rfl (by kernel_rfl) (fun _ _ _ h => h) (Or.inl ⟨by rfl, ?_⟩) ?_ ?_
            rotate_left
            · (intro w'; go_simp; with_reducible rfl)
            rotate_left
            · (simp only [put_s, List.set, i64_w, i32_w]; rfl)
            exact hJ2
        · refine value_ (v := pt W1.drew.heap.size) (w1 := (W1.drew.alloc (.cells #[.int .i64 0, .string ⟨#[]⟩, .int .u32 0, .int .i64 0, .int .u32 0, .int .i64 0] 105))) (by rfl) rfl (by go_simp) ?_
          refine hK.out _ _ trivial (fun hHeld => ?_)
          clear hK K
          refine norm_ (a' := ?_) ?_ ?_
          rotate_left
          · show Act.put _ (some 6) _ = _
            simp only [put_s, List.set, i64_w, i32_w]
            rfl
          refine one_ (i := 10) (N := some 19) #[true, true, true, true, true, true, true, true, true, true, true, true, true, false, false, false, true, false] rfl rfl (by kernel_rfl) (by decide) (fun K hK => ?_)
          refine goes_ Tryz.func105 (by kernel_rfl) rfl #[.slice (some ⟨d.block, d.off + 28, none⟩) 4 484] (by rfl) rfl rfl (by first | rfl | (simp [Act.eval])) ?_
          refine Calls.mono (HG28.out _ HB1.out) ?_
          rintro e w' ⟨rfl, rfl⟩
          refine ⟨_, rfl, ?_⟩
          refine hK.out _ _ trivial (fun hHeld => ?_)
          clear hK K
          refine norm_ (a' := ?_) ?_ ?_
          rotate_left
          · show Act.put _ (some 19) _ = _
            simp only [put_s, List.set, i64_w, i32_w]
            rfl
          refine one_ (i := 13) (N := some 22) #[true, true, true, true, true, true, true, true, true, true, true, true, true, true, false, false, true, false] rfl rfl (by kernel_rfl) (by decide) (fun K hK => ?_)
          refine goes_ Tryz.func105 (by kernel_rfl) rfl #[.slice (some ⟨d.block, d.off + 32, none⟩) 2 480] (by rfl) rfl rfl (by first | rfl | (simp [Act.eval])) ?_
          refine Calls.mono (HG32.out _ HB1.out) ?_
          rintro e w' ⟨rfl, rfl⟩
          refine ⟨_, rfl, ?_⟩
          refine hK.out _ _ trivial (fun hHeld => ?_)
          clear hK K
          refine norm_ (a' := ?_) ?_ ?_
          rotate_left
          · show Act.put _ (some 22) _ = _
            simp only [put_s, List.set, i64_w, i32_w]
            rfl
          refine pure_ (i := 14) (N := some 23) (v := ?_) (a' := ?_) #[true, true, true, true, true, true, true, true, true, true, true, true, true, true, true, false, true, false] rfl rfl (by kernel_rfl) (fun _ _ _ h => h) (Or.inl ⟨by rfl, ?_⟩) ?_ ?_
          rotate_left
          · (intro w'; go_simp; with_reducible rfl)
          rotate_left
          · (simp only [put_s, List.set, i64_w, i32_w]; rfl)
          refine pure_ (i := 15) (N := some 24) (v := ?_) (a' := ?_) #[true, true, true, true, true, true, true, true, true, true, true, true, true, true, true, true, true, false] rfl rfl (by kernel_rfl) (fun _ _ _ h => h) (Or.inl ⟨by rfl, ?_⟩) ?_ ?_
          rotate_left
          · (intro w'; go_simp; with_reducible rfl)
          rotate_left
          · (simp only [put_s, List.set, i64_w, i32_w]; rfl)
          exact hJ2
      · refine value_ (v := pt W1.drew.heap.size) (w1 := (W1.drew.alloc (.cells #[.int .i64 0, .string ⟨#[]⟩, .int .u32 0, .int .i64 0, .int .u32 0, .int .i64 0] 105))) (by rfl) rfl (by go_simp) ?_
        refine hK.out _ _ trivial (fun hHeld => ?_)
        clear hK K
        refine norm_ (a' := ?_) ?_ ?_
        rotate_left
        · show Act.put _ (some 6) _ = _
          simp only [put_s, List.set, i64_w, i32_w]
          rfl
        refine one_ (i := 6) (N := some 15) #[true, true, true, true, true, true, true, false, true, true, false, true, true, false, false, false, true, false] rfl rfl (by kernel_rfl) (by decide) (fun K hK => ?_)
        refine goes_ Tryz.func105 (by kernel_rfl) rfl #[.slice (some ⟨d.block, d.off + 24, none⟩) 4 488] (by rfl) rfl rfl (by first | rfl | (simp [Act.eval])) ?_
        refine Calls.mono (HG24.out _ HB1.out) ?_
        rintro e w' ⟨rfl, rfl⟩
        refine ⟨_, rfl, ?_⟩
        refine hK.out _ _ trivial (fun hHeld => ?_)
        clear hK K
        refine norm_ (a' := ?_) ?_ ?_
        rotate_left
        · show Act.put _ (some 15) _ = _
          simp only [put_s, List.set, i64_w, i32_w]
          rfl
        refine pure_ (i := 7) (N := some 16) (v := ?_) (a' := ?_) #[true, true, true, true, true, true, true, true, true, true, false, true, true, false, false, false, true, false] rfl rfl (by kernel_rfl) (fun _ _ _ h => h) (Or.inl ⟨by rfl, ?_⟩) ?_ ?_
        rotate_left
        · (intro w'; go_simp; with_reducible rfl)
        rotate_left
        · (simp only [put_s, List.set, i64_w, i32_w]; rfl)
        refine one_ (i := 10) (N := some 19) #[true, true, true, true, true, true, true, true, true, true, true, true, true, false, false, false, true, false] rfl rfl (by kernel_rfl) (by decide) (fun K hK => ?_)
        refine goes_ Tryz.func105 (by kernel_rfl) rfl #[.slice (some ⟨d.block, d.off + 28, none⟩) 4 484] (by rfl) rfl rfl (by first | rfl | (simp [Act.eval])) ?_
        refine Calls.mono (HG28.out _ HB1.out) ?_
        rintro e w' ⟨rfl, rfl⟩
        refine ⟨_, rfl, ?_⟩
        refine hK.out _ _ trivial (fun hHeld => ?_)
        clear hK K
        refine norm_ (a' := ?_) ?_ ?_
        rotate_left
        · show Act.put _ (some 19) _ = _
          simp only [put_s, List.set, i64_w, i32_w]
          rfl
        refine one_ (i := 13) (N := some 22) #[true, true, true, true, true, true, true, true, true, true, true, true, true, true, false, false, true, false] rfl rfl (by kernel_rfl) (by decide) (fun K hK => ?_)
        refine goes_ Tryz.func105 (by kernel_rfl) rfl #[.slice (some ⟨d.block, d.off + 32, none⟩) 2 480] (by rfl) rfl rfl (by first | rfl | (simp [Act.eval])) ?_
        refine Calls.mono (HG32.out _ HB1.out) ?_
        rintro e w' ⟨rfl, rfl⟩
        refine ⟨_, rfl, ?_⟩
        refine hK.out _ _ trivial (fun hHeld => ?_)
        clear hK K
        refine norm_ (a' := ?_) ?_ ?_
        rotate_left
        · show Act.put _ (some 22) _ = _
          simp only [put_s, List.set, i64_w, i32_w]
          rfl
        refine pure_ (i := 14) (N := some 23) (v := ?_) (a' := ?_) #[true, true, true, true, true, true, true, true, true, true, true, true, true, true, true, false, true, false] rfl rfl (by kernel_rfl) (fun _ _ _ h => h) (Or.inl ⟨by rfl, ?_⟩) ?_ ?_
        rotate_left
        · (intro w'; go_simp; with_reducible rfl)
        rotate_left
        · (simp only [put_s, List.set, i64_w, i32_w]; rfl)
        refine pure_ (i := 15) (N := some 24) (v := ?_) (a' := ?_) #[true, true, true, true, true, true, true, true, true, true, true, true, true, true, true, true, true, false] rfl rfl (by kernel_rfl) (fun _ _ _ h => h) (Or.inl ⟨by rfl, ?_⟩) ?_ ?_
        rotate_left
        · (intro w'; go_simp; with_reducible rfl)
        rotate_left
        · (simp only [put_s, List.set, i64_w, i32_w]; rfl)
        exact hJ2
    · refine value_ (v := pt W1.drew.heap.size) (w1 := (W1.drew.alloc (.cells #[.int .i64 0, .string ⟨#[]⟩, .int .u32 0, .int .i64 0, .int .u32 0, .int .i64 0] 105))) (by rfl) rfl (by go_simp) ?_
      refine hK.out _ _ trivial (fun hHeld => ?_)
      clear hK K
      refine norm_ (a' := ?_) ?_ ?_
      rotate_left
      · show Act.put _ (some 6) _ = _
        simp only [put_s, List.set, i64_w, i32_w]
        rfl
      refine one_ (i := 3) (N := some 12) #[true, true, true, true, true, true, false, false, true, true, false, true, true, false, false, false, true, false] rfl rfl (by kernel_rfl) (by decide) (fun K hK => ?_)
      refine goes_ Tryz.func105 (by kernel_rfl) rfl #[.slice (some ⟨d.block, d.off + 20, none⟩) 4 492] (by rfl) rfl rfl (by first | rfl | (simp [Act.eval])) ?_
      refine Calls.mono (HG20.out _ HB1.out) ?_
      rintro e w' ⟨rfl, rfl⟩
      refine ⟨_, rfl, ?_⟩
      refine hK.out _ _ trivial (fun hHeld => ?_)
      clear hK K
      refine norm_ (a' := ?_) ?_ ?_
      rotate_left
      · show Act.put _ (some 12) _ = _
        simp only [put_s, List.set, i64_w, i32_w]
        rfl
      refine one_ (i := 6) (N := some 15) #[true, true, true, true, true, true, true, false, true, true, false, true, true, false, false, false, true, false] rfl rfl (by kernel_rfl) (by decide) (fun K hK => ?_)
      refine goes_ Tryz.func105 (by kernel_rfl) rfl #[.slice (some ⟨d.block, d.off + 24, none⟩) 4 488] (by rfl) rfl rfl (by first | rfl | (simp [Act.eval])) ?_
      refine Calls.mono (HG24.out _ HB1.out) ?_
      rintro e w' ⟨rfl, rfl⟩
      refine ⟨_, rfl, ?_⟩
      refine hK.out _ _ trivial (fun hHeld => ?_)
      clear hK K
      refine norm_ (a' := ?_) ?_ ?_
      rotate_left
      · show Act.put _ (some 15) _ = _
        simp only [put_s, List.set, i64_w, i32_w]
        rfl
      refine pure_ (i := 7) (N := some 16) (v := ?_) (a' := ?_) #[true, true, true, true, true, true, true, true, true, true, false, true, true, false, false, false, true, false] rfl rfl (by kernel_rfl) (fun _ _ _ h => h) (Or.inl ⟨by rfl, ?_⟩) ?_ ?_
      rotate_left
      · (intro w'; go_simp; with_reducible rfl)
      rotate_left
      · (simp only [put_s, List.set, i64_w, i32_w]; rfl)
      refine one_ (i := 10) (N := some 19) #[true, true, true, true, true, true, true, true, true, true, true, true, true, false, false, false, true, false] rfl rfl (by kernel_rfl) (by decide) (fun K hK => ?_)
      refine goes_ Tryz.func105 (by kernel_rfl) rfl #[.slice (some ⟨d.block, d.off + 28, none⟩) 4 484] (by rfl) rfl rfl (by first | rfl | (simp [Act.eval])) ?_
      refine Calls.mono (HG28.out _ HB1.out) ?_
      rintro e w' ⟨rfl, rfl⟩
      refine ⟨_, rfl, ?_⟩
      refine hK.out _ _ trivial (fun hHeld => ?_)
      clear hK K
      refine norm_ (a' := ?_) ?_ ?_
      rotate_left
      · show Act.put _ (some 19) _ = _
        simp only [put_s, List.set, i64_w, i32_w]
        rfl
      refine one_ (i := 13) (N := some 22) #[true, true, true, true, true, true, true, true, true, true, true, true, true, true, false, false, true, false] rfl rfl (by kernel_rfl) (by decide) (fun K hK => ?_)
      refine goes_ Tryz.func105 (by kernel_rfl) rfl #[.slice (some ⟨d.block, d.off + 32, none⟩) 2 480] (by rfl) rfl rfl (by first | rfl | (simp [Act.eval])) ?_
      refine Calls.mono (HG32.out _ HB1.out) ?_
      rintro e w' ⟨rfl, rfl⟩
      refine ⟨_, rfl, ?_⟩
      refine hK.out _ _ trivial (fun hHeld => ?_)
      clear hK K
      refine norm_ (a' := ?_) ?_ ?_
      rotate_left
      · show Act.put _ (some 22) _ = _
        simp only [put_s, List.set, i64_w, i32_w]
        rfl
      refine pure_ (i := 14) (N := some 23) (v := ?_) (a' := ?_) #[true, true, true, true, true, true, true, true, true, true, true, true, true, true, true, false, true, false] rfl rfl (by kernel_rfl) (fun _ _ _ h => h) (Or.inl ⟨by rfl, ?_⟩) ?_ ?_
      rotate_left
      · (intro w'; go_simp; with_reducible rfl)
      rotate_left
      · (simp only [put_s, List.set, i64_w, i32_w]; rfl)
      refine pure_ (i := 15) (N := some 24) (v := ?_) (a' := ?_) #[true, true, true, true, true, true, true, true, true, true, true, true, true, true, true, true, true, false] rfl rfl (by kernel_rfl) (fun _ _ _ h => h) (Or.inl ⟨by rfl, ?_⟩) ?_ ?_
      rotate_left
      · (intro w'; go_simp; with_reducible rfl)
      rotate_left
      · (simp only [put_s, List.set, i64_w, i32_w]; rfl)
      exact hJ2
  rintro _ w' rfl
  refine norm_ (a' := ?_) ?_ ?_
  rotate_left
  · simp only [putAll, Act.put, List.setIfInBounds_toArray, List.set_cons_zero, List.set_cons_succ]
    rfl
  refine last_ (i := 17) (N := none) #[true, true, true, true, true, true, true, true, true, true, true, true, true, true, true, true, true, true] rfl rfl (by kernel_rfl) (by decide) (fun K hK => ?_)
  refine skip_ (w1 := W1.drew.alloc (.cells #[.int .i64 ten, .string ⟨#[]⟩, .int .u32 v1, .int .i64 (wrap64 v2), .int .u32 v3, .int .i64 (wrap64 v4)] 105)) (by rfl) rfl (by go_simp) ?_
  refine hK.out _ _ ?_
  clear hK K
  refine done_ (by kernel_rfl) ?_
  have e2 : wrap64 v2 = v2 := by unfold wrap64; omega
  have e4 : wrap64 v4 = v4 := by unfold wrap64; omega
  simp only [e2, e4]
  clear e2 e4
  have hA : Below W1.heap.size W1 (W1.drew.alloc (.cells #[.int .i64 ten, .string ⟨#[]⟩, .int .u32 v1, .int .i64 v2, .int .u32 v3, .int .i64 v4] 105)) := (Below.refl _ _).drew.alloc (Nat.le_refl _) _
  have q2 : Blk (W1.drew.alloc (.cells #[.int .i64 ten, .string ⟨#[]⟩, .int .u32 v1, .int .i64 v2, .int .u32 v3, .int .i64 v4] 105)) W1.drew.heap.size #[.int .i64 ten, .string ⟨#[]⟩, .int .u32 v1, .int .i64 v2, .int .u32 v3, .int .i64 v4] 105 := blkNew rfl
  have r2 := HBB.out.below hA
  have hb2 := HB.out.trans (hA.mono HB.out.size)
  have x2 := HXX.out.below (B := 0) hA
  have hne : w.heap.size ≠ W1.drew.heap.size := by have := HBB.out.lt; rw [World.size_drew]; omega
  have hwq : w.heap.size ≤ W1.drew.heap.size := HB.out.size
  generalize W1.drew.alloc (.cells #[.int .i64 ten, .string ⟨#[]⟩, .int .u32 v1, .int .i64 v2, .int .u32 v3, .int .i64 v4] 105) = W2 at *
  generalize W1.drew.heap.size = q at *
  clear hA HB0 HB1 HBB HB HXX HG20 HG24 HG28 HG32
  have h3 : 0 ≤ rd xs 3 ∧ rd xs 3 < 256 := hu _ (by
    unfold rd
    rw [List.getD_eq_getElem?_getD, List.getElem?_eq_getElem (by omega)]
    exact List.getElem_mem _)
  obtain ⟨c3d, e, c3⟩ := BytesAt.at_ x2 3 (by decide)
  injection e with e
  subst e
  have c3 : W2.cell? ⟨d.block, d.off + 3, none⟩ = some (.int .u8 (rd xs 3)) := by
    have e1 : d.add 3 = ⟨d.block, d.off + 3, none⟩ := by unfold Addr.add; rw [if_neg (by omega)]
    rwa [e1] at c3
  have y0 := Blk.cell (i := 0) q2 rfl
  have y1 := Blk.cell (i := 1) q2 rfl
  have y2 := Blk.cell (i := 2) q2 rfl
  have y3 := Blk.cell (i := 3) q2 rfl
  have y4 := Blk.cell (i := 4) q2 rfl
  have y5 := Blk.cell (i := 5) q2 rfl
  have z1 : W2.frozen? ⟨q, 1, none⟩ = false := Blk.frozen q2
  by_cases h16 : rd xs 3 ≤ 16
  · obtain ⟨n, hn⟩ := Int.eq_ofNat_of_zero_le h3.1
    have d16 : decide (16 < rd xs 3) = false := by simp; omega
    have x4 := cut_at x2 4 n (by omega) (by omega)
    have hcv := conv_str (c := 508) x4
    have hof := HOF.out
    have hok := HOK.out
    rw [hof, decide_eq_true h16, Bool.true_and] at hok
    rw [hn] at hof hok c3 d16
    rw [Int.toNat_natCast] at hof hok
    dsimp only at hok
    have hnl : (subB xs 4 n).length = n := subB_len (by omega)
    have hns : (strOfNums (subB xs 4 n)).size = n := by rw [str_size]; exact hnl
    have hsb : (xs.drop 4).take n = subB xs 4 n := rfl
    rw [hsb] at hcv
    generalize strOfNums (subB xs 4 n) = nm at *
    have hn16 : n ≤ 16 := by omega
    have HH := Lib.hid (And.intro hof hok)
    have HR := Lib.hid (And.intro r2 (And.intro hb2 x2))
    clear hof hok r2 hb2 x2 x4 hsb hnl h3 hn HOF HOK
    have hn0 : (0 : Int) ≤ (n : Int) := by omega
    have hn1 : (n : Int) ≤ 16 := by omega
    go_upto_region 6 with (fail)
    have q3 : Blk (W2.setCell ⟨q, 1, none⟩ (.string nm)) q #[.int .i64 ten, .string nm, .int .u32 v1, .int .i64 v2, .int .u32 v3, .int .i64 v4] 105 := Blk.set (i := 1) q2 _
    have r3 : Blk (W2.setCell ⟨q, 1, none⟩ (.string nm)) w.heap.size #[.int .i64 0, .string ⟨#[]⟩, .int .u32 0, .int .i64 0, .int .u32 0, .int .i64 0] 105 := Blk.other HR.out.1 hne _
    have hb3 : Below w.heap.size w (W2.setCell ⟨q, 1, none⟩ (.string nm)) := HR.out.2.1.setCell (p := ⟨q, 1, none⟩) hwq _
    have x3 := HX0.out.below (B := 0) hb3
    generalize W2.setCell ⟨q, 1, none⟩ (.string nm) = W3 at *
    have hhd : HD.ok ⟨ten, nm, v1, v2, v3, v4⟩ := ⟨ht, by show nm.size ≤ 16; omega, hv1, hv2, hv3, hv4⟩
    have HN := Lib.hid (fun W => isName_ok nm W (by omega))
    have HBY := Lib.hid (fun W => bytes_ok W ⟨ten, nm, v1, v2, v3, v4⟩ hhd 1)
    have hu5 : u8s (headS ⟨ten, nm, v1, v2, v3, v4⟩ 1) := (headS_ok hhd (by decide)).1
    have HEQ := Lib.hid (fun (W : World) (A : Option Addr) (hA : BytesAt W A 512 (headS ⟨ten, nm, v1, v2, v3, v4⟩ 1)) (hX : BytesAt W (some d) 512 xs) => equal_ok W A (some d) 512 512 512 512 _ xs hA hX hu5 hu)
    have HR3 := Lib.hid (And.intro r3 (And.intro hb3 x3))
    have hQ : ∀ W, Blk W q #[.int .i64 ten, .string nm, .int .u32 v1, .int .i64 v2, .int .u32 v3, .int .i64 v4] 105 → W.cell? ⟨q, 0, none⟩ = some (.int .i64 ten) ∧ W.cell? ⟨q, 1, none⟩ = some (.string nm) ∧ W.cell? ⟨q, 2, none⟩ = some (.int .u32 v1) ∧ W.cell? ⟨q, 3, none⟩ = some (.int .i64 v2) ∧ W.cell? ⟨q, 4, none⟩ = some (.int .u32 v3) ∧ W.cell? ⟨q, 5, none⟩ = some (.int .i64 v4) := fun W h => ⟨Blk.cell h rfl, Blk.cell h rfl, Blk.cell h rfl, Blk.cell h rfl, Blk.cell h rfl, Blk.cell h rfl⟩
    have hS : ∀ W, Blk W w.heap.size #[.int .i64 0, .string ⟨#[]⟩, .int .u32 0, .int .i64 0, .int .u32 0, .int .i64 0] 105 → (W.cell? ⟨w.heap.size, 0, none⟩ = some (.int .i64 0) ∧ W.cell? ⟨w.heap.size, 1, none⟩ = some (.string ⟨#[]⟩) ∧ W.cell? ⟨w.heap.size, 2, none⟩ = some (.int .u32 0) ∧ W.cell? ⟨w.heap.size, 3, none⟩ = some (.int .i64 0) ∧ W.cell? ⟨w.heap.size, 4, none⟩ = some (.int .u32 0) ∧ W.cell? ⟨w.heap.size, 5, none⟩ = some (.int .i64 0)) ∧ ∀ i, W.frozen? ⟨w.heap.size, i, none⟩ = false := fun W h => ⟨⟨Blk.cell h rfl, Blk.cell h rfl, Blk.cell h rfl, Blk.cell h rfl, Blk.cell h rfl, Blk.cell h rfl⟩, fun i => Blk.frozen h⟩
    have HQ := Lib.hid hQ
    have HS := Lib.hid hS
    have HQ3 := Lib.hid q3
    have HHD := Lib.hid hhd
    have k1 := Blk.cell (i := 1) q3 rfl
    clear y0 y1 y2 y3 y4 y5 z1 q2 q3 r3 hb3 x3 hQ hS hcv hhd hu5 c3 d16 hn0 hn1
    obtain ⟨b1, hb1⟩ : ∃ b, nameOk nm = b := ⟨_, rfl⟩
    obtain ⟨b2, hb2⟩ : ∃ b, decide (0 < v1) = b := ⟨_, rfl⟩
    obtain ⟨b3, hb3⟩ : ∃ b, decide (v2 ≤ 131072) = b := ⟨_, rfl⟩
    obtain ⟨b4, hb4⟩ : ∃ b, decide (headS ⟨ten, nm, v1, v2, v3, v4⟩ 1 = xs) = b := ⟨_, rfl⟩
    rw [hb1] at HN
    rw [hb4] at HEQ
    rw [hb1, hb2, hb3, hb4] at HH
    have HB4 := Lib.hid hb4
    clear hb4 hb1
    cases b1 <;> cases b2 <;> cases b3
    all_goals
      go_wp2_with (first
        | (go_at_call 90; refine Calls.mono (HN.out _) ?_; rintro e w4 ⟨rfl, k4, rfl⟩; have q4 : Blk (W3.drewN k4) q _ 105 := HQ3.out; obtain ⟨y0, y1, y2, y3, y4, y5⟩ := HQ.out _ q4; obtain ⟨⟨s0, s1, s2, s3, s4, s5⟩, sf⟩ := HS.out (W3.drewN k4) HR3.out.1; have HQ4 := Lib.hid q4; clear q4)
        | (go_at_call 97; refine Calls.mono (HBY.out _) ?_; rintro e w5 ⟨A5, rfl, f1, f2, f3⟩; obtain ⟨y0, y1, y2, y3, y4, y5⟩ := HQ.out w5 (HQ4.out.below f3); have r5 : Blk w5 _ _ 105 := Blk.below (w := W3.drewN k4) HR3.out.1 f3; obtain ⟨⟨s0, s1, s2, s3, s4, s5⟩, sf⟩ := HS.out w5 r5; have HF := Lib.hid (And.intro f1 (And.intro r5 f3)); clear f1 f2 f3 r5)
        | (go_at_call 158; refine Calls.mono (HEQ.out w5 A5 HF.out.1 (BytesAt.below (w := W3.drewN k4) (B := 0) HR3.out.2.2 HF.out.2.2)) ?_; rintro e w6 ⟨rfl, rfl⟩))
    all_goals first
      | (have hq6 := set6 (W := w5) HF.out.2.1 (.int .i64 ten) (.string nm) (.int .u32 v1) (.int .i64 v2) (.int .u32 v3) (.int .i64 v4)
         have hb6 := below6 (W := w5) ((HR3.out.2.1.trans (bdrew _ W3 k4)).trans (HF.out.2.2.mono HR3.out.2.1.size)) (Nat.le_refl _) (.int .i64 ten) (.string nm) (.int .u32 v1) (.int .i64 v2) (.int .u32 v3) (.int .i64 v4)
         refine bodyPost_ret (v := .tuple #[.agg #[.int .i64 ten, .string nm, .int .u32 v1, .int .i64 v2, .int .u32 v3, .int .i64 v4], .bool b4]) ?_ rfl ⟨⟨⟨ten, nm, v1, v2, v3, v4⟩, by rw [HH.out.2]; rfl, fun _ => HH.out.1.symm⟩, hb6⟩
         generalize ((((((w5.setCell ⟨w.heap.size, 0, none⟩ (.int .i64 ten)).setCell ⟨w.heap.size, 1, none⟩ (.string nm)).setCell ⟨w.heap.size, 2, none⟩ (.int .u32 v1)).setCell ⟨w.heap.size, 3, none⟩ (.int .i64 v2)).setCell ⟨w.heap.size, 4, none⟩ (.int .u32 v3)).setCell ⟨w.heap.size, 5, none⟩ (.int .i64 v4)) = W6 at *
         have k0 := Blk.cell (i := 0) hq6 rfl
         have k1 := Blk.cell (i := 1) hq6 rfl
         have k2 := Blk.cell (i := 2) hq6 rfl
         have k3 := Blk.cell (i := 3) hq6 rfl
         have k4 := Blk.cell (i := 4) hq6 rfl
         have k5 := Blk.cell (i := 5) hq6 rfl
         simp [results, Tryz.results126, go_sem, k0, k1, k2, k3, k4, k5])
      | (have hq6 := set6 (W := (W3.drewN k4)) HR3.out.1 (.int .i64 ten) (.string nm) (.int .u32 v1) (.int .i64 v2) (.int .u32 v3) (.int .i64 v4)
         have hb6 := below6 (W := (W3.drewN k4)) (HR3.out.2.1.trans (bdrew _ W3 k4)) (Nat.le_refl _) (.int .i64 ten) (.string nm) (.int .u32 v1) (.int .i64 v2) (.int .u32 v3) (.int .i64 v4)
         refine bodyPost_ret (v := .tuple #[.agg #[.int .i64 ten, .string nm, .int .u32 v1, .int .i64 v2, .int .u32 v3, .int .i64 v4], .bool false]) ?_ rfl ⟨⟨⟨ten, nm, v1, v2, v3, v4⟩, by rw [HH.out.2]; rfl, fun _ => HH.out.1.symm⟩, hb6⟩
         generalize (((((((W3.drewN k4).setCell ⟨w.heap.size, 0, none⟩ (.int .i64 ten)).setCell ⟨w.heap.size, 1, none⟩ (.string nm)).setCell ⟨w.heap.size, 2, none⟩ (.int .u32 v1)).setCell ⟨w.heap.size, 3, none⟩ (.int .i64 v2)).setCell ⟨w.heap.size, 4, none⟩ (.int .u32 v3)).setCell ⟨w.heap.size, 5, none⟩ (.int .i64 v4)) = W6 at *
         have k0 := Blk.cell (i := 0) hq6 rfl
         have k1 := Blk.cell (i := 1) hq6 rfl
         have k2 := Blk.cell (i := 2) hq6 rfl
         have k3 := Blk.cell (i := 3) hq6 rfl
         have k4 := Blk.cell (i := 4) hq6 rfl
         have k5 := Blk.cell (i := 5) hq6 rfl
         simp [results, Tryz.results126, go_sem, k0, k1, k2, k3, k4, k5])
  · have hok := HOK.out
    rw [decide_eq_false h16, Bool.false_and] at hok
    have HNO := Lib.hid hok
    clear hok
    have d16 : decide (16 < rd xs 3) = true := by simp; omega
    generalize rd xs 3 = n3 at *
    have b0 := Blk.cell (i := 0) r2 rfl
    have b1 := Blk.cell (i := 1) r2 rfl
    have b2 := Blk.cell (i := 2) r2 rfl
    have b3 := Blk.cell (i := 3) r2 rfl
    have b4 := Blk.cell (i := 4) r2 rfl
    have b5 := Blk.cell (i := 5) r2 rfl
    have f0 : ∀ i, W2.frozen? ⟨w.heap.size, i, none⟩ = false := fun i => Blk.frozen r2
    have HR := Lib.hid (And.intro r2 hb2)
    clear r2 hb2
    go_wp2_with fail
    have hq6 := set6 HR.out.1 (.int .i64 ten) (.string ⟨#[]⟩) (.int .u32 v1) (.int .i64 v2) (.int .u32 v3) (.int .i64 v4)
    have hb6 := below6 HR.out.2 (Nat.le_refl _) (.int .i64 ten) (.string ⟨#[]⟩) (.int .u32 v1) (.int .i64 v2) (.int .u32 v3) (.int .i64 v4)
    refine bodyPost_ret (v := .tuple #[.agg #[.int .i64 ten, .string ⟨#[]⟩, .int .u32 v1, .int .i64 v2, .int .u32 v3, .int .i64 v4], .bool false]) ?_ rfl ⟨⟨⟨ten, ⟨#[]⟩, v1, v2, v3, v4⟩, by rw [HNO.out]; rfl, fun h => by rw [HNO.out] at h; cases h⟩, hb6⟩
    generalize (((((W2.setCell { block := w.heap.size, off := 0 } (.int .i64 ten)).setCell { block := w.heap.size, off := 1 } (.string ⟨#[]⟩)).setCell { block := w.heap.size, off := 2 } (.int .u32 v1)).setCell { block := w.heap.size, off := 3 } (.int .i64 v2)).setCell { block := w.heap.size, off := 4 } (.int .u32 v3)).setCell { block := w.heap.size, off := 5 } (.int .i64 v4) = W6 at *
    have k0 := Blk.cell (i := 0) hq6 rfl
    have k1 := Blk.cell (i := 1) hq6 rfl
    have k2 := Blk.cell (i := 2) hq6 rfl
    have k3 := Blk.cell (i := 3) hq6 rfl
    have k4 := Blk.cell (i := 4) hq6 rfl
    have k5 := Blk.cell (i := 5) hq6 rfl
    simp [results, Tryz.results126, go_sem, k0, k1, k2, k3, k4, k5]
end Go.Proofs.YtmofiicjaldmiaaGreatDoor.SyA
end
section
namespace Go.Proofs.YtmofiicjaldmiaaGreatDoor.SyB
open Go.RowKit Go.Shelf YtmofiicjaldmiaaGreatDoorW.PrintWords YtmofiicjaldmiaaGreatDoorW.PrintLast SvA SvB SvC SvD SvE SvF SvG SvH SvI SvJ SvK SvL SvM SvN SvO SvP SvQ SvR SvS SvT SvU SvV SvW SvX SvY SvZ SwA SwB SwC SwD SwE SwF SwG SwI SwJ SwK SwH SwL SwM SwN SwO SwP SwQ SwR SwS SwT SwX SwY SxA SyA
set_option linter.unusedVariables false
set_option linter.unusedSimpArgs false
open Go.Lib
def GL (w : World) (own : Nat → Nat) (br : Value) : Prop := own 0 = 0 ∧ w.cell? ⟨0, 0, none⟩ = some br
theorem GL.keep {ts : Nat → Prop} {w w' : World} {own own' : Nat → Nat} {br : Value} (h : GL w own br) (hk : Kp ts w own w' own') (h0 : ¬ ts 0) : GL w' own' br := by
 have hl := World.block_lt_of_cell? w _ h.2
 obtain ⟨a, b⟩ := hk.block 0 hl (by rw [h.1]; exact h0)
 exact ⟨a.trans h.1, (World.cell?_of_block (w := w) (a := ⟨0, 0, none⟩) b).trans h.2⟩
def twinB (h : HD) (e : EN) : Bool := e.hd.name == h.name && decide (e.hd.ver = h.ver)
set_option maxRecDepth 100000 in
theorem twin_ok (x : EP) (h : HD) (w : World) (hb : Nat) (hc : Blk w hb h.cells 105) : Calls Tryz.prog 127 #[x.enc, pt hb] w fun e w' => e = .returned (.bool (twinB h x.en)) ∧ Below w.heap.size w w' := by
 obtain ⟨⟨⟨x1, x2, x3, x4, x5, x6⟩, x7, xs⟩, ⟨x8, x9, x10⟩⟩ := x
 obtain ⟨h1, h2, h3, h4, h5, h6⟩ := h
 unfold EP.enc
 have hlt := Blk.lt hc
 have c1 : w.cell? ⟨hb, 1, none⟩ = some (.string h2) := Blk.cell (i := 1) hc rfl
 have c2 : w.cell? ⟨hb, 2, none⟩ = some (.int .u32 h3) := Blk.cell (i := 2) hc rfl
 unfold twinB
 dsimp only
 obtain ⟨b1, hb1⟩ : ∃ b, (x2 == h2) = b := ⟨_, rfl⟩
 have hb2 : (x2.toList == h2.toList) = b1 := by rw [toList_beq, hb1]
 have HB := Lib.hid hb1
 clear hb1
 cases b1
 ·
  go_enter Tryz.func127, Tryz.ntmps127
  go_wp2_with fail
  go_ret
  exact ⟨ret_bool (by rw [HB.out]; simp), ba _⟩
 ·
  go_enter Tryz.func127, Tryz.ntmps127
  go_wp2_with fail
  go_ret
  exact ⟨ret_bool (by rw [HB.out, Bool.true_and, Bool.eq_iff_iff]; simp), ba _⟩
def scanStep (b : BS) (a : AR) (s : List EN × List Int) (n : Nat) : Option (List EN × List Int) :=
 let x := b.read (a.frm + n)
 if rd x 0 = 0 then some s else if hdOk x a.ten then
  (if (followS b a (hdOf x a.ten)).2.2 && !((followS b a (hdOf x a.ten)).1.any (fun y => s.2.contains y)) && !(s.1.any (twinB (hdOf x a.ten))) then some (s.1 ++ [⟨hdOf x a.ten, (n : Int), (followS b a (hdOf x a.ten)).1⟩], s.2 ++ (followS b a (hdOf x a.ten)).1) else none)
 else none
def scanTo (b : BS) (a : AR) : Nat → Option (List EN × List Int)
 | 0 => some ([], [])
 | n + 1 => (scanTo b a n).bind (fun s => scanStep b a s n)
theorem scanTo_none {b : BS} {a : AR} {k : Nat} (h : scanTo b a k = none) : ∀ m, k ≤ m → scanTo b a m = none := by
 intro m hm
 induction m with
 | zero =>
    obtain rfl : k = 0 := by omega
    exact h
 | succ m ih =>
  by_cases e : k = m + 1
  · subst e; exact h
  ·
   unfold scanTo
   rw [ih (by omega)]
   rfl
theorem folF_len (b : BS) (a : AR) (size : Int) : ∀ (f : Nat) (n : Int) (secs data s2 d2 : List Int) (m : Int), folF b a size f n secs data = some (s2, d2, m) → s2.length ≤ secs.length + f
 | 0, n, secs, data, s2, d2, m, h => by simp [folF] at h
 | f + 1, n, secs, data, s2, d2, m, h => by
  unfold folF at h
  split at h
  ·
   split at h
   · cases h
   ·
    have := folF_len b a size f _ _ _ _ _ _ h
    rw [List.length_append, List.length_singleton] at this
    omega
  ·
   simp only [Option.some.injEq, Prod.mk.injEq] at h
   rw [h.1]
   omega
theorem followS_len (b : BS) (a : AR) (h : HD) : (followS b a h).1.length ≤ a.sec + 2 := by
 unfold followS
 split
 · simp
 ·
  rename_i s d n he
  have := folF_len b a h.size _ _ _ _ _ _ _ he
  simpa using this
theorem scanTo_len {b : BS} {a : AR} : ∀ {k : Nat} {s : List EN × List Int}, scanTo b a k = some s → s.1.length ≤ k ∧ s.2.length ≤ k * (a.sec + 2)
 | 0, s, h => by
  simp only [scanTo, Option.some.injEq] at h
  subst h
  simp
 | k + 1, s, h => by
  unfold scanTo at h
  obtain ⟨s0, h0, h1⟩ := Option.bind_eq_some_iff.1 h
  obtain ⟨i1, i2⟩ := scanTo_len h0
  have hm : (k + 1) * (a.sec + 2) = k * (a.sec + 2) + (a.sec + 2) := Nat.succ_mul _ _
  unfold scanStep at h1
  dsimp only at h1
  split at h1
  ·
   simp only [Option.some.injEq] at h1
   subst h1
   exact ⟨by omega, by omega⟩
  ·
   split at h1
   ·
    split at h1
    ·
     simp only [Option.some.injEq] at h1
     subst h1
     have := followS_len b a (hdOf (b.read (a.frm + k)) a.ten)
     dsimp only
     rw [List.length_append, List.length_append, List.length_singleton]
     exact ⟨by omega, by omega⟩
    · cases h1
   · cases h1
theorem Kp.grow_new {ts : Nat → Prop} {w wr w1 : World} {own o : Nat → Nat} (h : Kp ts w own wr o) {row : Option Nat} (hg : wr.grownBy w1 row) (hr : ∀ k, row = some k → w.heap.size ≤ k) (tg : Nat) : Kp ts w own w1 (tagged wr o tg) :=
 ⟨hg.os.trans h.os, hg.tape.trans h.tape, hg.output.trans h.output, Nat.le_trans h.size hg.size, fun k hk hn => by
  obtain ⟨a, b⟩ := h.block k hk hn
  refine ⟨(tagged_old (Nat.lt_of_lt_of_le hk h.size)).trans a, (hg.block k (Nat.lt_of_lt_of_le hk h.size) (fun e => ?_)).trans b⟩
  have := hr k e.symm
  omega⟩
structure ScSt (w : World) (own : Nat → Nat) (t g gs : Nat) (cg : Array Value) (ga i : Nat) (b : BS) (a : AR) (br : Value) (ents : List EN) (taken : List Int) (wr : World) (o : Nat → Nat) (z zt : Sl) (ps : List EP) : Prop where
 og : o ga = t + 4 + i
 bk : Blk wr ga #[.int .i64 (a.ten : Int), .int .i64 (a.frm : Int), .int .i64 (a.sec : Int), .int .i64 (a.heads : Int), z.enc] 102
 rows : Ow enK 107 wr o (t + 12 + i) z ps
 es : Es wr o ps ents
 st : StA wr o t gs b
 gg : o g = t + 3
 gb : Blk wr g cg 93
 tk : i64K.R 3 wr 0 (fun k => o k = 3 ∧ w.heap.size ≤ k) zt.enc taken
 gl : GL wr o br
 kp : Kp (fun q => q = t + 4 + i ∨ q = t + 12 + i) w own wr o
theorem ScSt.move {w : World} {own : Nat → Nat} {t g gs : Nat} {cg : Array Value} {ga i : Nat} {b : BS} {a : AR} {br : Value} {ents : List EN} {taken : List Int} {wr wq : World} {o oq : Nat → Nat} {z zt : Sl} {ps : List EP} (h : ScSt w own t g gs cg ga i b a br ents taken wr o z zt ps) (hk : Kp (fun _ => False) wr o wq oq) : ScSt w own t g gs cg ga i b a br ents taken wq oq z zt ps := by
 obtain ⟨a1, a2⟩ := h.bk.keep hk (fun q => q)
 obtain ⟨g1, g2⟩ := h.gb.keep hk (fun q => q)
 refine ⟨a2.trans h.og, a1, h.rows.keep hk (fun q => q), h.es.keep hk (fun q => q), h.st.keep hk (fun q => q) (fun q => q) (fun q => q) (fun q => q), g2.trans h.gg, g1, ?_, h.gl.keep hk (fun q => q), h.kp.trans (hk.mono (fun _ q => q.elim))⟩
 have hR := Kd.R_bound h.tk
 refine Kd.R_mono (R_keep (ok := fun k => (o k = 3 ∧ w.heap.size ≤ k) ∧ k < wr.heap.size) (ts := fun _ => False) (Kd.R_mono hR (fun k hk => ⟨hk.1, hk.2.2.1⟩)) hk (fun _ _ q => q)) (fun k hk2 => ?_)
 exact ⟨(hk.block k hk2.2 (fun q => q)).1.trans hk2.1.1, hk2.1.2⟩
theorem app_ints {ops : Array Oper} {rest : List Oper} {o : Oper} {a : Act} {Q : Exit → Act → World → Prop} {w0 W : World} (base : Nat) (hgd : o.guard = none) (s x : Operand)
  (ho : o.op = .call { callee := .builtin .append, args := #[s, x], argTypes := #[53, 53] }) (v : Value) (xs ys : List Int) (A : Option Addr) (m c : Nat) (ok : Nat → Prop) (hs : a.eval s = v) (hx : a.eval x = .slice A m c)
  (HO : i64K.R 3 W base ok v xs) (HR : i64K.C W A m ys) (hfresh : ∀ k, W.heap.size ≤ k → ok k) (HB : Below base w0 W) (hbase : base ≤ W.heap.size) (hl : (xs.length + m) * 8 ≤ 140737488355328)
  (h : ∀ v1 w1, i64K.R 3 w1 base ok v1 (xs ++ ys) → Below base w0 w1 → W.grownBy w1 v.ownBlock → (v1.ownBlock = v.ownBlock ∨ ∃ b, v1.ownBlock = some b ∧ W.heap.size ≤ b) → wpList Tryz.prog ops Q rest (a.put o.dst v1) w1) :
  wpList Tryz.prog ops Q (o :: rest) a W :=
 Kd.R_append_rows i64K (Rr := i64K.K W) (w0 := w0) base hgd s x 53 3 (.int .i64 0) 8 ho Tryz.underlying53 info3 rfl (by decide) (by decide) v xs ys A m c ok (fun _ => False) hs hx HO HR (fun _ _ h => h) (fun _ h => h.elim) hfresh HB hbase (by omega) h
def ScanP (w : World) (own : Nat → Nat) (t gs ga i : Nat) (b : BS) (a : AR) (br : Value) (r : Option (List EN × List Int)) (e : Ending) (w' : World) : Prop :=
 match r with
 | none => e = .returned br ∧ ∃ own', StA w' own' t gs b ∧ Kp (fun q => q = t + 4 + i ∨ q = t + 12 + i) w own w' own'
 | some s => e = .returned .nilIface ∧ ∃ own', StA w' own' t gs b ∧ ArA w' own' (t + 4 + i) (t + 12 + i) ga { a with ents := s.1 } ∧ Kp (fun q => q = t + 4 + i ∨ q = t + 12 + i) w own w' own'
theorem secs_rd {w w' wr : World} {own o : Nat → Nat} {z : Sl} {ys : List Int} (h : Ow i64K 3 w' o 1 z ys) (ho : ∀ k, k < w.heap.size → o k = 0) (hle : wr.heap.size ≤ w.heap.size) : Rd i64K w' (tagged wr own 0) 0 z ys := by
 obtain ⟨a, b, c⟩ := ow_rd h
 refine ⟨a, b, fun ad ha hn => tagged_new ?_⟩
 have h1 := c ad ha hn
 rcases Nat.lt_or_ge ad.block w.heap.size with h2 | h2
 ·
  rw [ho _ h2] at h1
  exact absurd h1 (by decide)
 · omega
theorem ScSt.tk0 {w : World} {own : Nat → Nat} {t g gs : Nat} {cg : Array Value} {ga i : Nat} {b : BS} {a : AR} {br : Value} {ents : List EN} {taken : List Int} {wr : World} {o : Nat → Nat} {z zt : Sl} {ps : List EP} (H : ScSt w own t g gs cg ga i b a br ents taken wr o z zt ps) : i64K.R 3 wr 0 (fun k => tagged wr o 3 k = 3 ∧ w.heap.size ≤ k) zt.enc taken :=
  Kd.R_mono (Kd.R_bound H.tk) (fun k hk => ⟨(tagged_old hk.2.2.1).trans hk.1.1, hk.1.2⟩)
theorem ScSt.took {w : World} {own : Nat → Nat} {t g gs : Nat} {cg : Array Value} {ga i : Nat} {b : BS} {a : AR} {br : Value} {ents : List EN} {taken : List Int} {wr w1 : World} {o : Nat → Nat} {z zt z1 : Sl} {ps : List EP} {ys : List Int} (H : ScSt w own t g gs cg ga i b a br ents taken wr o z zt ps) (ht : 100 ≤ t)
  (h1 : i64K.R 3 w1 0 (fun k => tagged wr o 3 k = 3 ∧ w.heap.size ≤ k) z1.enc ys) (hg : wr.grownBy w1 zt.enc.ownBlock) : ScSt w own t g gs cg ga i b a br ents ys w1 (tagged wr o 3) z z1 ps ∧ Kp (fun q => q = 3) wr o w1 (tagged wr o 3) := by
 have hr : ∀ k, zt.enc.ownBlock = some k → o k = 3 ∧ w.heap.size ≤ k := fun k hk => H.tk.1 k hk
 have hk : Kp (fun q => q = 3) wr o w1 (tagged wr o 3) := Kp.grown hg 3 (fun k hk => (hr k hk).1)
 obtain ⟨a1, a2⟩ := H.bk.keep hk (by rw [H.og]; omega)
 obtain ⟨g1, g2⟩ := H.gb.keep hk (by rw [H.gg]; omega)
 exact ⟨⟨a2.trans H.og, a1, H.rows.keep hk (by omega), H.es.keep hk (by decide), H.st.keep hk (by decide) (by omega) (by omega) (by omega), g2.trans H.gg, g1, h1, H.gl.keep hk (by decide), Kp.grow_new H.kp hg (fun k hk => (hr k hk).2) 3⟩, hk⟩
theorem ScSt.push {w : World} {own : Nat → Nat} {t g gs : Nat} {cg : Array Value} {ga i : Nat} {b : BS} {a : AR} {br : Value} {ents : List EN} {taken : List Int} {wr wa : World} {o oa : Nat → Nat} {z zt s3 : Sl} {ps : List EP} {X : EP} (H : ScSt w own t g gs cg ga i b a br ents taken wr o z zt ps) (ht : 100 ≤ t) (hi : i < 8)
  (hx : Rd i64K wr o 0 X.sl X.en.secs) (ho : Ow enK 107 wa oa (t + 12 + i) s3 (ps ++ [X])) (hk : Kp (fun q => q = t + 12 + i) wr o wa oa) :
  ScSt w own t g gs cg ga i b a br (ents ++ [X.en]) taken (wa.setCell ⟨ga, 4, none⟩ s3.enc) oa s3 zt (ps ++ [X]) := by
 obtain ⟨a1, a2⟩ := H.bk.keep hk (by rw [H.og]; omega)
 have hoa : oa ga = t + 4 + i := a2.trans H.og
 have h2 : Kp (fun q => q = t + 4 + i) wa oa (wa.setCell ⟨ga, 4, none⟩ s3.enc) oa := (Kp.refl _ _ _).set _ _ (fun k hk hn e => hn (by rw [e]; exact hoa))
 have h3 : Kp (fun q => q = t + 4 + i ∨ q = t + 12 + i) wr o (wa.setCell ⟨ga, 4, none⟩ s3.enc) oa := (hk.mono (fun q h => .inr h)).trans (h2.mono (fun q h => .inl h))
 obtain ⟨g1, g2⟩ := H.gb.keep h3 (by rw [H.gg]; omega)
 refine ⟨hoa, Blk.set (i := 4) a1 _, ho.keep h2 (by omega), ⟨by rw [List.map_append, H.es.1]; rfl, fun p hp => ?_⟩, H.st.keep h3 (by omega) (by omega) (by omega) (by omega), g2.trans H.gg, g1, ?_, H.gl.keep h3 (by omega), H.kp.trans h3⟩
 ·
  rcases List.mem_append.1 hp with h | h
  · exact (H.es.2 p h).keep i64K_K (by decide) h3 (by omega)
  ·
   rw [List.mem_singleton] at h
   subst h
   exact hx.keep i64K_K (by decide) h3 (by omega)
 ·
  refine Kd.R_mono (R_keep (ok := fun k => (o k = 3 ∧ w.heap.size ≤ k) ∧ k < wr.heap.size) (Kd.R_mono (Kd.R_bound H.tk) (fun k hk => ⟨hk.1, hk.2.2.1⟩)) h3 (fun k hk => by rw [hk.1.1]; omega)) (fun k hk2 => ?_)
  exact ⟨(h3.block k hk2.2 (by rw [hk2.1.1]; omega)).1.trans hk2.1.1, hk2.1.2⟩
theorem ScanP.bad {w : World} {own : Nat → Nat} {t g gs : Nat} {cg : Array Value} {ga i : Nat} {b : BS} {a : AR} {br : Value} {ents : List EN} {taken : List Int} {wr : World} {o : Nat → Nat} {z zt : Sl} {ps : List EP} (H : ScSt w own t g gs cg ga i b a br ents taken wr o z zt ps) {k : Nat} (hk : k < a.heads) (hn : scanTo b a (k + 1) = none) {W : World} (hb : Below wr.heap.size wr W) : ScanP w own t gs ga i b a br (scanTo b a a.heads) (.returned br) W := by
 rw [scanTo_none hn a.heads (by omega)]
 have H2 := H.move (Kp.below (ts := fun _ => False) hb 0)
 exact ⟨rfl, _, H2.st, H2.kp⟩
theorem hdOf_ok {x : List Int} (hl : x.length = 512) (hu : u8s x) {ten : Int} (ht : 0 ≤ ten ∧ ten < 256) (h : hdOk x ten = true) : (hdOf x ten).ok := by
 unfold hdOk at h
 simp only [Bool.and_eq_true, decide_eq_true_eq] at h
 have hv : ∀ (o n : Nat), o + n ≤ 512 → 0 ≤ unle (subB x o n) ∧ unle (subB x o n) < 256 ^ n := fun o n h1 => by
  have := unle_lt (subB_u8 hu o n)
  rwa [subB_len (by omega)] at this
 have hv1 := hv 20 4 (by omega)
 have hv2 := hv 24 4 (by omega)
 have hv3 := hv 28 4 (by omega)
 have hv4 := hv 32 2 (by omega)
 rw [show (256 : Int) ^ 4 = 4294967296 by decide] at hv1 hv2 hv3
 rw [show (256 : Int) ^ 2 = 65536 by decide] at hv4
 exact ⟨ht, nameOk_size h.2.1.1.1, hv1, hv2, hv3, hv4⟩
set_option maxRecDepth 100000 in
set_option maxHeartbeats 8000000 in
theorem scan_ok (w : World) (own : Nat → Nat) (t g gs : Nat) (cg : Array Value) (hc0 : cg[0]? = some (pt gs)) (ga i : Nat) (hi : i < 8) (b : BS) (hS : BOk b) (a : AR) (hab : a.frm + a.sec ≤ b.n) (hn : b.n < 2 ^ 18) (hh : a.heads ≤ a.sec) (hten : a.ten < 256) (br : Value) (ht : 100 ≤ t)
  (z0 : Sl) (H : ScSt w own t g gs cg ga i b a br [] [] w own z0 nilS []) (hz0 : z0 = nilS) :
  Calls Tryz.prog 87 #[pt g, pt ga] w (ScanP w own t gs ga i b a br (scanTo b a a.heads)) := by
 subst hz0
 have HST := Lib.hid H
 have ch : w.cell? ⟨ga, 3, none⟩ = some (.int .i64 (a.heads : Int)) := Blk.cell (i := 3) H.bk rfl
 clear H
 have hh18 : a.heads < 2 ^ 18 := by omega
 go_enter Tryz.func87, Tryz.ntmps87
 go_wp2_with fail
 clear ch
 go_loopw [19, 5, 6, 7, 8, 9, 10, 11, 13, 14] (fun v tk _ _ _ _ _ _ _ _ wr => ∃ (k : Nat) (o : Nat → Nat) (z zt : Sl) (ps : List EP) (ents : List EN) (taken : List Int), k ≤ a.heads ∧ v = .int .i64 (k : Int) ∧ tk = .slice zt.A zt.n zt.c ∧ scanTo b a k = some (ents, taken) ∧ ScSt w own t g gs cg ga i b a br ents taken wr o z zt ps) (fun v _ _ _ _ _ _ _ _ _ _ => a.heads - (intOf v).toNat)
 case atStart => exact ⟨0, own, nilS, nilS, [], [], [], by omega, rfl, rfl, rfl, HST.out⟩
 case round =>
  clear HST
  obtain ⟨k, o, z, zt, ps, ents, taken, hk, rfl, rfl, hsc, H⟩ := hrel
  by_cases hlt : k < a.heads
  ·
   have dl : decide ((k : Int) < (a.heads : Int)) = true := by simp; omega
   have hkn : (k : Int) < (a.heads : Int) := by omega
   have hkb : a.frm + k < b.n := by omega
   obtain ⟨r1, r2⟩ := hS.read hkb
   have HR := Lib.hid (sread_ok wr o t gs b H.st g ga a.frm k (Blk.cell (i := 0) H.gb hc0) (Blk.cell (i := 1) H.bk rfl) hkb hS.fit)
   have HX := Lib.hid (And.intro r1 r2)
   have hst : scanTo b a (k + 1) = scanStep b a (ents, taken) k := by
    show (scanTo b a k).bind _ = _
    rw [hsc]
    rfl
   unfold scanStep at hst
   dsimp only at hst
   generalize b.read (a.frm + k) = x at *
   have HS := Lib.hid H
   have HSC := Lib.hid hsc
   have HT := Lib.hid hst
   clear H hsc hst r1 r2
   go_upto_region 6 with (go_at_call 125; refine Calls.mono HR.out ?_; rintro e w1 ⟨A1, rfl, f1, f2, f3⟩; obtain ⟨d, hd, hc1⟩ := BytesAt.at_ f1 0 (by decide); subst hd; rw [Addr.add_zero'] at hc1; have HF := Lib.hid (And.intro f1 f3); clear f1 f2 f3)
   have hrd : rd x ((0 : Nat) : Int) = rd x 0 := rfl
   rw [hrd] at hc1
   clear hrd
   have HTE := HT.out
   obtain ⟨y0, hy0⟩ : ∃ y, rd x 0 = y := ⟨_, rfl⟩
   rw [hy0] at hc1 HTE
   by_cases h0 : y0 = 0
   ·
    subst h0
    rw [if_pos rfl] at HTE
    have HSC1 := Lib.hid HTE
    clear HTE hy0
    go_wp2_with fail
    exact ⟨⟨k + 1, _, z, zt, ps, ents, taken, by omega, by go_num, rfl, HSC1.out, HS.out.move (Kp.below (ts := fun _ => False) HF.out.2 0)⟩, by simp [intOf]; omega⟩
   ·
    have hy1 : (y0 == 0) = false := by simp [h0]
    rw [if_neg h0] at HTE
    have HT2 := Lib.hid HTE
    have hGL : ∀ W, Below wr.heap.size wr W → W.cell? ⟨0, 0, none⟩ = some br := fun W h => cellOf h HS.out.gl.2
    have HGL := Lib.hid hGL
    have HRH := Lib.hid (readHead_ok w1 d x HF.out.1 HX.out.2 (a.ten : Int) ⟨by omega, by omega⟩)
    have ca0 : w1.cell? ⟨ga, 0, none⟩ = some (.int .i64 (a.ten : Int)) := cellOf HF.out.2 (Blk.cell (i := 0) HS.out.bk rfl)
    clear HTE hy0 hGL h0
    obtain ⟨bk, hbk⟩ : ∃ bk, hdOk x (a.ten : Int) = bk := ⟨_, rfl⟩
    rw [hbk] at HRH HT2
    have HBK := Lib.hid hbk
    clear hbk
    cases bk
    ·
     have hno := HT2.out
     rw [if_neg (by decide)] at hno
     have HNO := Lib.hid hno
     clear hno HT2
     go_wp2_with (go_at_call 126; refine Calls.mono HRH.out ?_; rintro e w2 ⟨⟨⟨h1, h2, h3, h4, h5, h6⟩, rfl, hq⟩, hb2⟩; have HB2 := Lib.hid (HF.out.2.trans (hb2.mono HF.out.2.size)); have g2 := fun ob => HGL.out (w2.alloc ob) (HB2.out.alloc HB2.out.size ob); clear hq hb2; unfold HD.enc; dsimp only)
     go_ret
     exact ScanP.bad HS.out hlt HNO.out (HB2.out.alloc HB2.out.size _)
    ·
     have hye := HT2.out
     rw [if_pos rfl] at hye
     have hok := hdOf_ok HX.out.1 HX.out.2 (ten := (a.ten : Int)) ⟨by omega, by omega⟩ HBK.out
     have HFO := Lib.hid (fun (W : World) (h : Below wr.heap.size wr W) => follow_ok W (tagged wr o 0) t g gs (fun _ => ga) ⟨b, fun _ => a, false⟩ i hi ⟨HS.out.st.keep (Kp.below (ts := fun _ => False) h 0) (fun q => q) (fun q => q) (fun q => q) (fun q => q), cellOf h (Blk.cell (i := 0) HS.out.gb hc0), cellOf h (Blk.cell (i := 0) HS.out.bk rfl), cellOf h (Blk.cell (i := 1) HS.out.bk rfl), cellOf h (Blk.cell (i := 2) HS.out.bk rfl), cellOf h (Blk.cell (i := 3) HS.out.bk rfl)⟩ hS hab (hdOf x (a.ten : Int)) hok)
     have hfl := followS_len b a (hdOf x (a.ten : Int))
     dsimp only at HFO
     generalize (followS b a (hdOf x (a.ten : Int))).1 = secs at *
     generalize (followS b a (hdOf x (a.ten : Int))).2.1 = dta at *
     generalize (followS b a (hdOf x (a.ten : Int))).2.2 = f3 at *
     generalize hdOf x (a.ten : Int) = hd at *
     obtain ⟨h1, h2, h3, h4, h5, h6⟩ := hd
     have HYE := Lib.hid hye
     have HFL := Lib.hid hfl
     clear hye hfl hok HT2
     cases f3
     ·
      have hno := HYE.out
      rw [Bool.false_and, Bool.false_and, if_neg (by decide)] at hno
      have HNO := Lib.hid hno
      clear hno HYE
      unfold HD.enc at HFO
      try dsimp only at HFO
      go_wp2_with (first
       | (go_at_call 126; refine Calls.mono HRH.out ?_; rintro e w2 ⟨⟨hh1, rfl, hq⟩, hb2⟩; have hq2 := hq rfl; subst hq2; have HB2 := Lib.hid (HF.out.2.trans (hb2.mono HF.out.2.size)); clear hq hb2; unfold HD.enc; dsimp only)
       | (go_at_call 65; refine Calls.mono (HFO.out _ (HB2.out.alloc HB2.out.size _)) ?_; rintro e w4 ⟨zs, zd, o4, rfl, p1, p2, p3, p4⟩; have HB4 := Lib.hid ((HB2.out.alloc HB2.out.size _).trans (p4.mono (HB2.out.alloc HB2.out.size _).size)); have g4 := HGL.out w4 HB4.out; clear p1 p2 p3 p4; unfold Sl.enc; dsimp only))
      go_ret
      exact ScanP.bad HS.out hlt HNO.out HB4.out
     ·
      unfold HD.enc at HFO
      try dsimp only at HFO
      go_upto_region 13 with (first
       | (go_at_call 126; refine Calls.mono HRH.out ?_; rintro e w2 ⟨⟨hh1, rfl, hq⟩, hb2⟩; have hq2 := hq rfl; subst hq2; have HB2 := Lib.hid (HF.out.2.trans (hb2.mono HF.out.2.size)); clear hq hb2; unfold HD.enc; dsimp only)
       | (go_at_call 65; refine Calls.mono (HFO.out _ (HB2.out.alloc HB2.out.size _)) ?_; rintro e w4 ⟨⟨sA, sn, sc⟩, zd, o4, rfl, p1, p2, p3, p4⟩; have HP := Lib.hid (And.intro p1 (And.intro p3 p4)); clear p1 p2 p3 p4; unfold Sl.enc; dsimp only))
      obtain ⟨p1, p3, p4⟩ := HP.out
      obtain rfl : secs.length = sn := (ow_len p1).1
      have hx4 := secs_rd (own := o) p1 p3 (HB2.out.alloc HB2.out.size (.cells #[.int .i64 h1, .string h2, .int .u32 h3, .int .i64 h4, .int .u32 h5, .int .i64 h6] 105)).size
      have hbq : Blk w4 w2.heap.size #[.int .i64 h1, .string h2, .int .u32 h3, .int .i64 h4, .int .u32 h5, .int .i64 h6] 105 := (blkNew rfl : Blk (w2.alloc (.cells #[.int .i64 h1, .string h2, .int .u32 h3, .int .i64 h4, .int .u32 h5, .int .i64 h6] 105)) w2.heap.size _ 105).below p4
      have HB4 := Lib.hid ((HB2.out.alloc HB2.out.size (.cells #[.int .i64 h1, .string h2, .int .u32 h3, .int .i64 h4, .int .u32 h5, .int .i64 h6] 105)).trans (p4.mono (HB2.out.alloc HB2.out.size (.cells #[.int .i64 h1, .string h2, .int .u32 h3, .int .i64 h4, .int .u32 h5, .int .i64 h6] 105)).size))
      have H4 := Lib.hid (HS.out.move (Kp.below (ts := fun _ => False) HB4.out 0))
      have hq0 : tagged wr o 0 w2.heap.size = 0 := tagged_new HB2.out.size
      generalize w2.heap.size = hq at *
      have HQ0 := Lib.hid hq0
      clear hq0
      have HBQ := Lib.hid hbq
      have HX4 := Lib.hid hx4
      have htl := scanTo_len HSC.out
      have htn : taken.length = zt.n := (ow_len (show Ow i64K 3 w4 _ 3 zt taken from Kd.R_mono H4.out.tk (fun k hk => hk.1))).1
      dsimp only at htl
      have hkm : k * (a.sec + 2) ≤ 2 ^ 18 * (2 ^ 18 + 2) := Nat.mul_le_mul (by omega) (by omega)
      have hzn40 : zt.n < 2 ^ 40 := by
       rw [← htn]
       exact Nat.lt_of_le_of_lt (Nat.le_trans htl.2 hkm) (by decide)
      have hsl40 : secs.length < 2 ^ 30 := by have := HFL.out; omega
      have HCO := Lib.hid (contains_ok w4 zt.A zt.n zt.c taken (ow_len (show Ow i64K 3 w4 _ 3 zt taken from Kd.R_mono H4.out.tk (fun k hk => hk.1))).2.2 hzn40)
      have HSE := Lib.hid (ow_len p1).2.2
      have g4 := HGL.out w4 HB4.out
      have HTL := Lib.hid (And.intro htl.1 (And.intro hzn40 htn))
      clear p1 p3 p4 hx4 hbq htl hkm hzn40 HP HRH HFO htn
      go_wp2_with fail
      have dl0 : True := trivial
      go_loopw [55, 13] (fun v _ wr2 => ∃ j : Nat, j ≤ secs.length ∧ v = .int .i64 (j : Int) ∧ wr2 = w4 ∧ (secs.take j).any (fun y => taken.contains y) = false) (fun v _ _ => secs.length - (intOf v).toNat)
      case atStart => exact ⟨0, by omega, rfl, rfl, rfl⟩
      case round =>
       obtain ⟨j, hj, rfl, hw4, hany⟩ := hrel
       subst hw4
       by_cases hjl : j < secs.length
       ·
        have dlj : decide ((j : Int) < (secs.length : Int)) = true := by simp; omega
        have hjn : (j : Int) < (secs.length : Int) := by omega
        have hj0 : (0 : Int) ≤ (j : Int) := by omega
        obtain ⟨y, hy⟩ : ∃ y, secs[j]? = some y := ⟨_, List.getElem?_eq_getElem hjl⟩
        obtain ⟨ad, hA, cy⟩ := sc_at HSE.out j hjl y hy
        subst hA
        have hye := (List.getElem?_eq_some_iff.1 hy).2
        have htk : (secs.take (j + 1)).any (fun y => taken.contains y) = (taken.contains y) := by
         rw [List.take_succ_eq_append_getElem hjl, List.any_append, hany, hye]
         simp
        obtain ⟨bc, hbc⟩ : ∃ bc, taken.contains y = bc := ⟨_, rfl⟩
        have HC1 := Lib.hid (HCO.out y)
        rw [hbc] at HC1 htk
        have HTK := Lib.hid htk
        clear hy hye htk hany hbc
        cases bc
        ·
         go_wp2_with (go_at_call 94; refine Calls.mono HC1.out ?_; rintro e w' ⟨rfl, rfl⟩)
         go_roundw
         case rel => exact ⟨j + 1, by omega, by go_num, by first | trivial | rfl, HTK.out⟩
         case measure => simp [intOf]; omega
        ·
         have hno := HYE.out
         have h1 : secs.any (fun y => taken.contains y) = true := by
          rw [← List.take_append_drop (j + 1) secs, List.any_append, HTK.out, Bool.true_or]
         rw [h1] at hno
         simp only [Bool.not_true, Bool.and_false, Bool.false_and] at hno
         rw [if_neg (by decide)] at hno
         have HNO := Lib.hid hno
         clear hno h1
         go_wp2_with (go_at_call 94; refine Calls.mono HC1.out ?_; rintro e w' ⟨rfl, rfl⟩)
         go_ret
         exact ScanP.bad HS.out hlt HNO.out HB4.out
       ·
        obtain rfl : j = secs.length := by omega
        have dlj : decide ((secs.length : Int) < (secs.length : Int)) = false := by simp
        rw [List.take_length] at hany
        have hye := HYE.out
        rw [hany] at hye
        have HYE2 := Lib.hid hye
        clear hye hany HYE
        have hps : ps.any (fun x : EP => twinB ⟨h1, h2, h3, h4, h5, h6⟩ x.en) = ents.any (twinB ⟨h1, h2, h3, h4, h5, h6⟩) := by
         rw [← HS.out.es.1, List.any_map]
         rfl
        have hpl : ps.length = ents.length := by rw [← HS.out.es.1, List.length_map]
        have HPL := Lib.hid (show ps.length < 2 ^ 30 by have := HTL.out.1; omega)
        have HCF := Lib.hid (containsFunc_ok wr _ (t + 12 + i) z ps H4.out.rows (by have := HPL.out; omega) 127 #[pt hq] (fun x : EP => twinB ⟨h1, h2, h3, h4, h5, h6⟩ x.en) (fun x _ W hW => twin_ok x ⟨h1, h2, h3, h4, h5, h6⟩ W hq (HBQ.out.below hW)) (enters 127 Tryz.func127 (by kernel_rfl) rfl))
        rw [hps] at HCF
        have c4 : wr.cell? ⟨ga, 4, none⟩ = some (.slice z.A z.n z.c) := Blk.cell (i := 4) H4.out.bk rfl
        have hE := enters 127 Tryz.func127 (by kernel_rfl) rfl
        obtain ⟨bt, hbt⟩ : ∃ bt, ents.any (twinB ⟨h1, h2, h3, h4, h5, h6⟩) = bt := ⟨_, rfl⟩
        rw [hbt] at HCF
        have hye := HYE2.out
        rw [hbt] at hye
        clear hps hpl hbt g4
        cases bt
        ·
         simp only [Bool.not_false, Bool.and_true, if_true] at hye
         have HNX := Lib.hid hye
         clear hye HYE2
         have ht100 : True := trivial
         go_upto_region 22 with (go_at_call 92; refine Calls.mono HCF.out ?_; rintro e w5 ⟨rfl, hb5⟩; have HB5 := Lib.hid hb5; clear hb5)
         have k5 : ∀ oo : Nat → Nat, Kp (fun _ => False) wr oo w5 (tagged wr oo 0) := fun oo => Kp.below HB5.out 0
         obtain ⟨o5, H5, hx5, hb5, ho5⟩ : ∃ o5, ScSt w own t g gs cg ga i b a br ents taken w5 o5 z zt ps ∧ Rd i64K w5 o5 0 ⟨sA, secs.length, sc⟩ secs ∧ Blk w5 hq #[.int .i64 h1, .string h2, .int .u32 h3, .int .i64 h4, .int .u32 h5, .int .i64 h6] 105 ∧ o5 hq = 0 :=
          ⟨_, H4.out.move (k5 _), HX4.out.keep i64K_K (by decide) (k5 _) (fun q => q), HBQ.out.below HB5.out, (HBQ.out.keep (k5 _) (fun q => q)).2.trans HQ0.out⟩
         have HH5 := Lib.hid (And.intro H5 (And.intro hx5 (And.intro hb5 ho5)))
         clear k5 H5 hx5 hb5 ho5 c4 hE
         go_upto_region 23 with (at_builtin; refine app_ints (w0 := w5) 0 rfl _ _ rfl zt.enc taken secs sA secs.length sc (fun q => tagged w5 o5 3 q = 3 ∧ w.heap.size ≤ q) rfl rfl HH5.out.1.tk0 HH5.out.2.1.1 (fun q hq => ⟨tagged_new hq, Nat.le_trans HH5.out.1.kp.size hq⟩) (Below.refl _ _) (Nat.zero_le _) (by have := HTL.out; omega) ?_; intro v1 w6 ho hb hg hat; obtain ⟨A6, m6, hv1, _, _⟩ := Kd.R_reads ho; subst hv1; have H6x := HH5.out.1.took ht (z1 := ⟨A6, (taken ++ secs).length, m6⟩) ho hg; have H6 := Lib.hid H6x; clear ho hb hg hat H6x)
         have hx6 := HH5.out.2.1.keep i64K_K (by decide) H6.out.2 (by decide)
         have hb6 := (HH5.out.2.2.1.keep H6.out.2 (by rw [HH5.out.2.2.2]; decide)).1
         generalize tagged w5 o5 3 = o6 at *
         obtain ⟨zA, zn, zc⟩ := z
         have hS23 : (fun w' => w'.cell? ⟨ga, 4, none⟩ = some (.slice zA zn zc) ∧ w'.cell? ⟨hq, 0, none⟩ = some (.int .i64 h1) ∧ w'.cell? ⟨hq, 1, none⟩ = some (.string h2) ∧ w'.cell? ⟨hq, 2, none⟩ = some (.int .u32 h3) ∧ w'.cell? ⟨hq, 3, none⟩ = some (.int .i64 h4) ∧ w'.cell? ⟨hq, 4, none⟩ = some (.int .u32 h5) ∧ w'.cell? ⟨hq, 5, none⟩ = some (.int .i64 h6)) w6 := ⟨Blk.cell (i := 4) H6.out.1.bk rfl, Blk.cell (i := 0) hb6 rfl, Blk.cell (i := 1) hb6 rfl, Blk.cell (i := 2) hb6 rfl, Blk.cell (i := 3) hb6 rfl, Blk.cell (i := 4) hb6 rfl, Blk.cell (i := 5) hb6 rfl⟩
         have HX6 := Lib.hid hx6
         clear hx6 hb6 HCF HCO HQ0 HX4 H4 HBQ HGL HB4 HB5 HSE
         refine start_ (n := 14) (S := fun w' => w'.cell? ⟨ga, 4, none⟩ = some (.slice zA zn zc) ∧ w'.cell? ⟨hq, 0, none⟩ = some (.int .i64 h1) ∧ w'.cell? ⟨hq, 1, none⟩ = some (.string h2) ∧ w'.cell? ⟨hq, 2, none⟩ = some (.int .u32 h3) ∧ w'.cell? ⟨hq, 3, none⟩ = some (.int .i64 h4) ∧ w'.cell? ⟨hq, 4, none⟩ = some (.int .u32 h5) ∧ w'.cell? ⟨hq, 5, none⟩ = some (.int .i64 h6)) (ds := [10, 13]) #[false, false, false, false, false, false, false, false, false, false, false, false, false, false] (by kernel_rfl) rfl rfl hS23 (fun hHeld => ?_)
         refine pu_ (i := 0) (N := some 75) (v := ?_) (a' := ?_) rfl rfl (by kernel_rfl) (fun _ _ _ h => h) (by rfl) ?_ ?_ ?_
         rotate_left
         · (intro w'; go_simp; with_reducible rfl)
         rotate_left
         · (simp only [put_s, List.set, i64_w, i32_w]; rfl)
         refine pu_ (i := 1) (N := some 76) (v := ?_) (a' := ?_) rfl rfl (by kernel_rfl) (fun _ _ _ h => h) (by rfl) ?_ ?_ ?_
         rotate_left
         · (intro w'; go_simp; with_reducible rfl)
         rotate_left
         · (simp only [put_s, List.set, i64_w, i32_w]; rfl)
         refine pu_ (i := 2) (N := some 77) (v := ?_) (a' := ?_) rfl rfl (by kernel_rfl) (fun _ _ _ h => h) (by rfl) ?_ ?_ ?_
         rotate_left
         · (intro w'; go_simp; with_reducible rfl)
         rotate_left
         · (simp only [put_s, List.set, i64_w, i32_w]; rfl)
         refine pu_ (i := 3) (N := some 78) (v := ?_) (a' := ?_) rfl rfl (by kernel_rfl) (fun _ _ _ h => h) (by rfl) ?_ ?_ ?_
         rotate_left
         · (intro w'; go_simp; with_reducible rfl)
         rotate_left
         · (simp only [put_s, List.set, i64_w, i32_w]; rfl)
         refine tk_ (i := 4) (N := some 79) (v := ?_) (a' := ?_) rfl rfl (by kernel_rfl) (fun _ _ _ h => h) (by rfl) ?_ hHeld ?_ ?_
         rotate_left
         ·
          intro w' s0
          obtain ⟨q1, q2, q3, q4, q5, q6, q7⟩ := s0
          go_simp
          with_reducible rfl
         rotate_left
         · (simp only [put_s, List.set, i64_w, i32_w]; rfl)
         refine tk_ (i := 5) (N := some 80) (v := ?_) (a' := ?_) rfl rfl (by kernel_rfl) (fun _ _ _ h => h) (by rfl) ?_ hHeld ?_ ?_
         rotate_left
         ·
          intro w' s0
          obtain ⟨q1, q2, q3, q4, q5, q6, q7⟩ := s0
          go_simp
          with_reducible rfl
         rotate_left
         · (simp only [put_s, List.set, i64_w, i32_w]; rfl)
         refine pu_ (i := 6) (N := some 81) (v := ?_) (a' := ?_) rfl rfl (by kernel_rfl) (fun _ _ _ h => h) (by rfl) ?_ ?_ ?_
         rotate_left
         · (intro w'; go_simp; with_reducible rfl)
         rotate_left
         · (simp only [put_s, List.set, i64_w, i32_w]; rfl)
         refine pu_ (i := 7) (N := some 82) (v := ?_) (a' := ?_) rfl rfl (by kernel_rfl) (fun _ _ _ h => h) (by rfl) ?_ ?_ ?_
         rotate_left
         · (intro w'; go_simp; with_reducible rfl)
         rotate_left
         · (simp only [put_s, List.set, i64_w, i32_w]; rfl)
         refine pu_ (i := 8) (N := some 83) (v := ?_) (a' := ?_) rfl rfl (by kernel_rfl) (fun _ _ _ h => h) (by rfl) ?_ ?_ ?_
         rotate_left
         · (intro w'; go_simp; with_reducible rfl)
         rotate_left
         · (simp only [put_s, List.set, i64_w, i32_w]; rfl)
         refine on_ (i := 9) (N := some 84) rfl rfl (by kernel_rfl) (by decide) (fun K hK => ?_)
         refine value_ (v := .slice (some ⟨w6.drew.heap.size, 0, none⟩) 1 1) (w1 := w6.drew.alloc (.cells #[.int .i64 h1, .string h2, .int .u32 h3, .int .i64 h4, .int .u32 h5, .int .i64 h6, .int .i64 (k : Int), .slice sA secs.length sc] 107)) (by rfl) rfl (by go_simp) ?_
         refine hK.out _ _ ⟨cellOf (ba _) hHeld.1, cellOf (ba _) hHeld.2.1, cellOf (ba _) hHeld.2.2.1, cellOf (ba _) hHeld.2.2.2.1, cellOf (ba _) hHeld.2.2.2.2.1, cellOf (ba _) hHeld.2.2.2.2.2.1, cellOf (ba _) hHeld.2.2.2.2.2.2⟩ (fun hHeld => ?_)
         clear hK K
         refine norm_ (a' := ?_) ?_ ?_
         rotate_left
         ·
          show Act.put _ (some 84) _ = _
          simp only [put_s, List.set, i64_w, i32_w]
          rfl
         refine la_ (i := 10) (N := some 85) rfl rfl (by kernel_rfl) (by decide) (fun K hK => ?_)
         refine Kd.R_append_step enK (w0 := w6.drew) 0 (by rfl) (.tmp 79) (.tmp 84) 100 107 (.agg #[.int .i64 0, .string ⟨#[]⟩, .int .u32 0, .int .i64 0, .int .u32 0, .int .i64 0, .int .i64 0, .slice none 0 0]) 88 rfl Tryz.underlying100 info107 rfl (by decide) (by decide) (Sl.mk zA zn zc).enc ps (EP.mk ⟨⟨h1, h2, h3, h4, h5, h6⟩, (k : Int), secs⟩ ⟨sA, secs.length, sc⟩) [.int .i64 h1, .string h2, .int .u32 h3, .int .i64 h4, .int .u32 h5, .int .i64 h6, .int .i64 (k : Int), .slice sA secs.length sc] (fun k => tagged w6.drew o6 (t + 12 + i) k = t + 12 + i) (fun _ => False) rfl rfl rfl (fun _ hk => hk.elim) (fun q hq => tagged_new (show w6.drew.heap.size ≤ q from hq)) (Ow.alloc (w := w6.drew) H6.out.1.rows (Below.refl _ _)) (Below.refl 0 _) (Nat.zero_le _) (by have := HPL.out; omega) ?_
         intro v3 wa ho hb hg3 hat
         obtain ⟨s3, rfl, ho', hk'⟩ := Ow.pushed (w := w6.drew) H6.out.1.rows (Below.refl _ _) ho hg3
         clear ho hb hg3 hat
         refine hK.out _ _ ?_
         clear hK K
         refine norm_ (a' := ?_) ?_ ?_
         rotate_left
         ·
          show Act.put _ (some 85) _ = _
          simp only [put_s, List.set, i64_w, i32_w]
          rfl
         refine pu_ (i := 11) (N := some 86) (v := ?_) (a' := ?_) rfl rfl (by kernel_rfl) (fun _ _ _ h => h) (by rfl) ?_ ?_ ?_
         rotate_left
         · (intro w'; go_simp; with_reducible rfl)
         rotate_left
         · (simp only [put_s, List.set, i64_w, i32_w]; rfl)
         refine pu_ (i := 12) (N := some 87) (v := ?_) (a' := ?_) rfl rfl (by kernel_rfl) (fun _ _ _ h => h) (by rfl) ?_ ?_ ?_
         rotate_left
         · (intro w'; go_simp; with_reducible rfl)
         rotate_left
         · (simp only [put_s, List.set, i64_w, i32_w]; rfl)
         refine la_ (i := 13) (N := none) rfl rfl (by kernel_rfl) (by decide) (fun K hK => ?_)
         have hbz := Blk.keep (w := w6.drew) H6.out.1.bk hk' (by rw [H6.out.1.og]; omega)
         have c3 := Blk.cell (i := 4) hbz.1 rfl
         have z3 := Blk.frozen (i := 4) hbz.1
         refine skip_ (w1 := wa.setCell ⟨ga, 4, none⟩ s3.enc) (by rfl) rfl (by simp only [Sl.enc]; go_simp) ?_
         refine hK.out _ _ ?_
         clear hK K
         refine done_ (by kernel_rfl) ?_
         have HE := Lib.hid (ScSt.push (X := (EP.mk ⟨⟨h1, h2, h3, h4, h5, h6⟩, (k : Int), secs⟩ ⟨sA, secs.length, sc⟩)) (H6.out.1.move (Kp.drew (Kp.refl (fun _ => False) w6 o6))) ht hi (HX6.out.keep i64K_K (by decide) (Kp.drew (Kp.refl (fun _ => False) w6 o6)) (fun q => q)) ho' hk')
         clear ho' hk' hbz c3 z3 hHeld hS23
         go_wp2_with fail
         exact ⟨⟨k + 1, _, s3, ⟨A6, (taken ++ secs).length, m6⟩, _, _, _, by omega, by go_num, by simp [List.length_append], HNX.out, HE.out⟩, by simp [intOf]; omega⟩
        ·
         simp only [Bool.not_true, Bool.and_false] at hye
         rw [if_neg (by decide)] at hye
         have HNO := Lib.hid hye
         clear hye HYE2
         go_wp2_with (go_at_call 92; refine Calls.mono HCF.out ?_; rintro e w5 ⟨rfl, hb5⟩; have HB5 := Lib.hid (HB4.out.trans (hb5.mono HB4.out.size)); have g5 := HGL.out w5 HB5.out; clear hb5)
         go_ret
         exact ScanP.bad HS.out hlt HNO.out HB5.out
  ·
   obtain rfl : k = a.heads := by omega
   have dl : decide ((a.heads : Int) < (a.heads : Int)) = false := by simp
   have HF := Lib.hid (show ScanP w own t gs ga i b a br (scanTo b a a.heads) (.returned .nilIface) wr by
    rw [hsc]
    exact ⟨rfl, o, H.st, ⟨z, ps, H.og, H.bk, H.rows, H.es⟩, H.kp⟩)
   clear H hsc
   go_wp2_with fail
   go_ret
   exact HF.out
end Go.Proofs.YtmofiicjaldmiaaGreatDoor.SyB
end
section
namespace Go.Proofs.YtmofiicjaldmiaaGreatDoor.SyC
open Go.RowKit Go.Shelf YtmofiicjaldmiaaGreatDoorW.PrintWords YtmofiicjaldmiaaGreatDoorW.PrintLast SvA SvB SvC SvD SvE SvF SvG SvH SvI SvJ SvK SvL SvM SvN SvO SvP SvQ SvR SvS SvT SvU SvV SvW SvX SvY SvZ SwA SwB SwC SwD SwE SwF SwG SwI SwJ SwK SwH SwL SwM SwN SwO SwP SwQ SwR SwS SwT SwX SwY SxA SyA SyB
set_option linter.unusedVariables false
set_option linter.unusedSimpArgs false
open Go.Lib
def olderB (e o : EN) : Bool := o.hd.name == e.hd.name && decide (e.hd.ver < o.hd.ver)
set_option maxRecDepth 100000 in
theorem older_ok (x e : EP) (w : World) (eb : Nat) (hc : Blk w eb e.cells.toArray 107) : Calls Tryz.prog 128 #[x.enc, pt eb] w fun en w' => en = .returned (.bool (olderB e.en x.en)) ∧ Below w.heap.size w w' := by
 obtain ⟨⟨⟨x1, x2, x3, x4, x5, x6⟩, x7, xs⟩, ⟨x8, x9, x10⟩⟩ := x
 obtain ⟨⟨⟨h1, h2, h3, h4, h5, h6⟩, h7, hs⟩, ⟨h8, h9, h10⟩⟩ := e
 unfold EP.enc
 have hlt := Blk.lt hc
 have c1 : w.cell? ⟨eb, 1, none⟩ = some (.string h2) := Blk.cell (i := 1) hc rfl
 have c2 : w.cell? ⟨eb, 2, none⟩ = some (.int .u32 h3) := Blk.cell (i := 2) hc rfl
 unfold olderB
 dsimp only
 obtain ⟨b1, hb1⟩ : ∃ b, (x2 == h2) = b := ⟨_, rfl⟩
 have hb2 : (x2.toList == h2.toList) = b1 := by rw [toList_beq, hb1]
 have HB := Lib.hid hb1
 clear hb1
 cases b1
 ·
  go_enter Tryz.func128, Tryz.ntmps128
  go_wp2_with fail
  go_ret
  exact ⟨ret_bool (by rw [HB.out]; simp), ba _⟩
 ·
  go_enter Tryz.func128, Tryz.ntmps128
  go_wp2_with fail
  go_ret
  exact ⟨ret_bool (by rw [HB.out, Bool.true_and]), ba _⟩
def newGo (es : List EN) (frm : Nat) : List EN → BS → List EN → Bool → BS × List EN × Bool × Bool
 | [], b, rest, sm => (b, rest, sm, true)
 | e :: l, b, rest, sm => if es.any (olderB e) then (if b.full then (b, rest, true, false) else newGo es frm l (b.put ((frm + e.at_.toNat : Nat) : Int) (headS e.hd 0)) rest true) else newGo es frm l b (rest ++ [e]) sm
structure NwSt (w : World) (own : Nat → Nat) (t g gs : Nat) (ga : Nat → Nat) (S : SV) (i : Nat) (b : BS) (rest : List EN) (z : Sl) (ps : List EP) (m : Nat) (wr : World) (o : Nat → Nat) (zr : Sl) (prs : List EP) : Prop where
 mem : SvMem wr o t g gs ga (SV.setB S b)
 rows : Ow enK 107 wr o (t + 12 + i) z ps
 es : Es wr o ps (S.ar i).ents
 og : o (ga i) = t + 4 + i
 bk : Blk wr (ga i) #[.int .i64 ((S.ar i).ten : Int), .int .i64 ((S.ar i).frm : Int), .int .i64 ((S.ar i).sec : Int), .int .i64 ((S.ar i).heads : Int), z.enc] 102
 rt : enK.R 107 wr 0 (fun k => o k = 3 ∧ w.heap.size ≤ k) zr.enc prs
 re : Es wr o prs rest
 kp : Kp (k20 t) w own wr o
 bok : BOk b
 bn : b.n = S.b.n
 pn : b.pend.length ≤ S.b.pend.length + m
 rl : rest.length ≤ m
theorem rt_keep {w wr wq : World} {o oq : Nat → Nat} {zr : Sl} {prs : List EP} {ts : Nat → Prop} (h : enK.R 107 wr 0 (fun k => o k = 3 ∧ w.heap.size ≤ k) zr.enc prs) (hk : Kp ts wr o wq oq) (h3 : ¬ ts 3) : enK.R 107 wq 0 (fun k => oq k = 3 ∧ w.heap.size ≤ k) zr.enc prs := by
 refine Kd.R_mono (R_keep (ok := fun k => (o k = 3 ∧ w.heap.size ≤ k) ∧ k < wr.heap.size) (Kd.R_mono (Kd.R_bound h) (fun k hk => ⟨hk.1, hk.2.2.1⟩)) hk (fun k hk => by rw [hk.1.1]; exact h3)) (fun k hk2 => ?_)
 exact ⟨(hk.block k hk2.2 (by rw [hk2.1.1]; exact h3)).1.trans hk2.1.1, hk2.1.2⟩
theorem NwSt.move {w : World} {own : Nat → Nat} {t g gs : Nat} {ga : Nat → Nat} {S : SV} {i : Nat} {b : BS} {rest : List EN} {z : Sl} {ps : List EP} {m : Nat} {wr wq : World} {o oq : Nat → Nat} {zr : Sl} {prs : List EP} (h : NwSt w own t g gs ga S i b rest z ps m wr o zr prs) (hk : Kp (fun _ => False) wr o wq oq) : NwSt w own t g gs ga S i b rest z ps m wq oq zr prs := by
 obtain ⟨a1, a2⟩ := h.bk.keep hk (fun q => q)
 exact ⟨h.mem.keep hk (fun q => q) (fun _ _ _ q => q), h.rows.keep hk (fun q => q), h.es.keep hk (fun q => q), a2.trans h.og, a1, rt_keep h.rt hk (fun q => q), h.re.keep hk (fun q => q), h.kp.trans (hk.mono (fun _ q => q.elim)), h.bok, h.bn, h.pn, h.rl⟩
theorem rt0 {w wr : World} {o : Nat → Nat} {zr : Sl} {prs : List EP} (h : enK.R 107 wr 0 (fun k => o k = 3 ∧ w.heap.size ≤ k) zr.enc prs) : enK.R 107 wr 0 (fun k => tagged wr o 3 k = 3 ∧ w.heap.size ≤ k) zr.enc prs := Kd.R_mono (Kd.R_bound h) (fun k hk => ⟨(tagged_old hk.2.2.1).trans hk.1.1, hk.1.2⟩)
theorem NwSt.stay {w : World} {own : Nat → Nat} {t g gs : Nat} {ga : Nat → Nat} {S : SV} {i : Nat} {b : BS} {rest : List EN} {z : Sl} {ps : List EP} {m : Nat} {wr w1 : World} {o : Nat → Nat} {zr z1 : Sl} {prs : List EP} {X : EP} (h : NwSt w own t g gs ga S i b rest z ps m wr o zr prs) (ht : 100 ≤ t)
  (hX : X ∈ ps) (h1 : enK.R 107 w1 0 (fun k => tagged wr o 3 k = 3 ∧ w.heap.size ≤ k) z1.enc (prs ++ [X])) (hg : wr.grownBy w1 zr.enc.ownBlock) : NwSt w own t g gs ga S i b (rest ++ [X.en]) z ps (m + 1) w1 (tagged wr o 3) z1 (prs ++ [X]) := by
 have hr : ∀ k, zr.enc.ownBlock = some k → o k = 3 ∧ w.heap.size ≤ k := fun k hk => h.rt.1 k hk
 have hk : Kp (fun q => q = 3) wr o w1 (tagged wr o 3) := Kp.grown hg 3 (fun k hk => (hr k hk).1)
 obtain ⟨a1, a2⟩ := h.bk.keep hk (by rw [h.og]; omega)
 refine ⟨h.mem.keep hk (by decide) (fun q h1 h2 => by omega), h.rows.keep hk (by omega), h.es.keep hk (by decide), a2.trans h.og, a1, h1, ⟨by rw [List.map_append, h.re.1]; rfl, fun p hp => ?_⟩, Kp.grow_new h.kp hg (fun k hk => (hr k hk).2) 3, h.bok, h.bn, by have := h.pn; omega, by rw [List.length_append]; exact Nat.succ_le_succ h.rl⟩
 rcases List.mem_append.1 hp with hp | hp
 · exact (h.re.2 p hp).keep i64K_K (by decide) hk (by decide)
 ·
  rw [List.mem_singleton] at hp
  subst hp
  exact (h.es.2 _ hX).keep i64K_K (by decide) hk (by decide)
theorem NwSt.struck {w : World} {own : Nat → Nat} {t g gs : Nat} {ga : Nat → Nat} {S : SV} {i : Nat} {b : BS} {rest : List EN} {z : Sl} {ps : List EP} {m : Nat} {wr w1 : World} {o o1 : Nat → Nat} {zr : Sl} {prs : List EP} (h : NwSt w own t g gs ga S i b rest z ps m wr o zr prs) (ht : 100 ≤ t) (hi : i < 8)
  {n : Nat} (hn : n < S.b.n) {d : List Int} (hd : u8s d) (hl : d.length = 512) (hp : S.b.pend.length + m + 1 < 2 ^ 40) (hst : StA w1 o1 t gs (b.put (n : Int) d)) (hk : Kp (fun q => q = t ∨ q = t + 2) wr o w1 o1) : NwSt w own t g gs ga S i (b.put (n : Int) d) rest z ps (m + 1) w1 o1 zr prs := by
 obtain ⟨a1, a2⟩ := h.bk.keep hk (by rw [h.og]; omega)
 refine ⟨SvMem.store (S := SV.setB S b) h.mem (by omega) hst (hk.mono (fun q h => by omega)), h.rows.keep hk (by omega), h.es.keep hk (by omega), a2.trans h.og, a1, rt_keep h.rt hk (by omega), h.re.keep hk (by omega), h.kp.trans (hk.mono (fun q h => ⟨by omega, by omega⟩)), BOk.put h.bok (by rw [h.bn]; exact hn) hd hl (by have := h.pn; omega), h.bn, ?_, Nat.le_succ_of_le h.rl⟩
 show (b.pend ++ [_]).length ≤ _
 rw [List.length_append]
 have := h.pn
 show b.pend.length + 1 ≤ _
 omega
theorem NwSt.fin {w : World} {own : Nat → Nat} {t g gs : Nat} {ga : Nat → Nat} {S : SV} {i : Nat} {b : BS} {rest : List EN} {z : Sl} {ps : List EP} {m : Nat} {wr : World} {o : Nat → Nat} {zr : Sl} {prs : List EP} (h : NwSt w own t g gs ga S i b rest z ps m wr o zr prs) (ht : 100 ≤ t) (hi : i < 8) :
  ∃ o', SvMem (wr.setCell ⟨ga i, 4, none⟩ zr.enc) o' t g gs ga (SV.setE (SV.setB S b) i rest) ∧ Kp (k20 t) w own (wr.setCell ⟨ga i, 4, none⟩ zr.enc) o' := by
 let o' : Nat → Nat := fun k => if o k = 3 ∧ w.heap.size ≤ k then t + 12 + i else o k
 have hr : Kp (fun q => q = 3) wr o wr o' := ⟨rfl, rfl, rfl, Nat.le_refl _, fun k _ hn => ⟨if_neg (fun q => hn q.1), rfl⟩⟩
 have hw : Kp (k20 t) w own wr o' := ⟨h.kp.os, h.kp.tape, h.kp.output, h.kp.size, fun k hk hn => ⟨(if_neg (fun q => by omega)).trans (h.kp.block k hk hn).1, (h.kp.block k hk hn).2⟩⟩
 have hog : o' (ga i) = t + 4 + i := (hr.block _ h.bk.lt (by rw [h.og]; omega)).1.trans h.og
 have hro : Ow enK 107 wr o' (t + 12 + i) zr prs := Kd.R_mono h.rt (fun k hk => if_pos hk)
 have h2 : Kp (fun q => q = t + 4 + i) wr o' (wr.setCell ⟨ga i, 4, none⟩ zr.enc) o' := (Kp.refl _ _ _).set _ _ (fun k hk hn e => hn (by rw [e]; exact hog))
 have hm := h.mem.keep hr (by decide) (fun q h1 h2 => by omega)
 exact ⟨o', SvMem.ents (S := SV.setB S b) hm i hi (h2.mono (fun q h => .inl h)) (by omega) hog (Blk.set (i := 4) h.bk _) (hro.keep h2 (by omega)) ((h.re.keep hr (by decide)).keep h2 (by omega)), hw.trans (h2.mono (fun q h => ⟨by omega, by omega⟩))⟩
def NewP (w : World) (own : Nat → Nat) (t g gs : Nat) (ga : Nat → Nat) (S : SV) (i : Nat) (r : BS × List EN × Bool × Bool) (e : Ending) (w' : World) : Prop :=
 if r.2.2.2 then e = .returned (.tuple #[.bool r.2.2.1, .nilIface]) ∧ ∃ own', SvMem w' own' t g gs ga (SV.setE (SV.setB S r.1) i r.2.1) ∧ Kp (k20 t) w own w' own' ∧ BOk r.1 ∧ r.1.n = S.b.n ∧ r.1.pend.length ≤ S.b.pend.length + (S.ar i).ents.length
 else e = .returned (.tuple #[.bool true, refusedV]) ∧ ∃ own', SvMem w' own' t g gs ga (SV.setB S r.1) ∧ Kp (k20 t) w own w' own' ∧ BOk r.1 ∧ r.1.n = S.b.n
set_option maxRecDepth 100000 in
set_option maxHeartbeats 8000000 in
theorem newest_ok (w : World) (own : Nat → Nat) (t g gs : Nat) (ga : Nat → Nat) (S : SV) (H : SvMem w own t g gs ga S) (ht : 100 ≤ t) (i : Nat) (hi : i < 8) (hS : BOk S.b) (hA : AOk S i) (hpe : S.b.pend.length < 2 ^ 39) :
  Calls Tryz.prog 88 #[pt g, pt (ga i)] w (NewP w own t g gs ga S i (newGo (S.ar i).ents (S.ar i).frm (S.ar i).ents S.b [] false)) := by
 obtain ⟨z, ps, hg, hb, hs, he⟩ := H.ar i hi
 have hpl : ps.length = (S.ar i).ents.length := by rw [← he.1, List.length_map]
 have hzn : ps.length = z.n := (ow_len hs).1
 have c4 : w.cell? ⟨ga i, 4, none⟩ = some (.slice z.A z.n z.c) := Blk.cell (i := 4) hb rfl
 have HST := Lib.hid (show NwSt w own t g gs ga S i S.b [] z ps 0 w own nilS [] from ⟨H, hs, he, hg, hb, Kd.R_nil _ _ _ _ _, ⟨rfl, fun p hp => by cases hp⟩, Kp.refl _ _ _, hS, rfl, Nat.le_refl _, Nat.le_refl _⟩)
 have HPZ := Lib.hid (And.intro hpl hzn)
 have HAA := Lib.hid hA
 have HPP := Lib.hid hpe
 obtain ⟨R, hR⟩ : ∃ R, newGo (S.ar i).ents (S.ar i).frm (S.ar i).ents S.b [] false = R := ⟨_, rfl⟩
 rw [hR]
 have HR0 := Lib.hid hR
 have hel := hA.el
 have hn30 : z.n < 2 ^ 30 := by omega
 clear hg hb hs he hpl hzn H hA hpe hR hel
 obtain ⟨zA, zn, zc⟩ := z
 dsimp only at hn30 c4
 go_enter Tryz.func88, Tryz.ntmps88
 go_wp2_with fail
 clear c4
 go_loopw [17, 6, 7, 9, 10, 11] (fun v rs sm _ _ _ wr => ∃ (k : Nat) (o : Nat → Nat) (zr : Sl) (prs : List EP) (b : BS) (rest : List EN) (s : Bool), k ≤ zn ∧ v = .int .i64 (k : Int) ∧ rs = .slice zr.A zr.n zr.c ∧ sm = .bool s ∧ newGo (S.ar i).ents (S.ar i).frm ((S.ar i).ents.drop k) b rest s = R ∧ NwSt w own t g gs ga S i b rest ⟨zA, zn, zc⟩ ps k wr o zr prs) (fun v _ _ _ _ _ _ => zn - (intOf v).toNat)
 case atStart => exact ⟨0, own, nilS, [], S.b, [], false, by omega, rfl, rfl, rfl, HR0.out, HST.out⟩
 case round =>
  clear HST
  obtain ⟨k, o, zr, prs, b, rest, s, hk, rfl, rfl, rfl, hgo, H⟩ := hrel
  by_cases hlt : k < zn
  ·
   have dl : decide ((k : Int) < (zn : Int)) = true := by simp; omega
   have hkn : (k : Int) < (zn : Int) := by omega
   have hpz := HPZ.out
   obtain ⟨gb, hz⟩ := ow_head H.rows (show 0 < zn by omega)
   injection hz with hzA _ _
   subst hzA
   obtain ⟨x, hx⟩ : ∃ x, ps[k]? = some x := ⟨_, List.getElem?_eq_getElem (by have := hpz.2; omega)⟩
   obtain ⟨e0, e1, e2, e3, e4, e5, e6, e7⟩ := en_at (ow_len H.rows).2.2 gb rfl k hlt x hx
   have hxe : (S.ar i).ents[k]? = some x.en := by rw [← H.es.1, List.getElem?_map, hx]; rfl
   obtain ⟨hx0, hx1, _, _⟩ := HAA.out.eo x.en (List.mem_of_getElem? hxe)
   have hdr : (S.ar i).ents.drop k = x.en :: (S.ar i).ents.drop (k + 1) := by
    rw [List.drop_eq_getElem_cons (List.getElem?_eq_some_iff.1 hxe).1, (List.getElem?_eq_some_iff.1 hxe).2]
   rw [hdr] at hgo
   unfold newGo at hgo
   have hmem := List.mem_of_getElem? hx
   have HX := Lib.hid (And.intro hx0 hmem)
   have hps : ps.any (fun y : EP => olderB x.en y.en) = (S.ar i).ents.any (olderB x.en) := by
    rw [← H.es.1, List.any_map]
    rfl
   obtain ⟨x7, h7⟩ := Int.eq_ofNat_of_zero_le hx1.1
   have hat : (S.ar i).frm + x7 < S.b.n := by
    have h1 := HAA.out.fs
    have h2 := hx1.2
    rw [h7] at h2
    omega
   have hx3 := hx0.v0
   clear hx hxe hdr hmem hx1 hx0
   obtain ⟨⟨⟨x1, x2, x3, x4, x5, x6⟩, x7', xs⟩, ⟨x8, x9, x10⟩⟩ := x
   dsimp only at h7
   subst h7
   have HGO := Lib.hid hgo
   have k1 : Kp (fun _ => False) wr o (wr.alloc (.cells #[.int .i64 x1, .string x2, .int .u32 x3, .int .i64 x4, .int .u32 x5, .int .i64 x6, .int .i64 (x7 : Int), .slice x8 x9 x10] 107)) (tagged wr o 0) := Kp.below (ba _) 0
   have H1 := Lib.hid (H.move k1)
   have hb1 : Blk (wr.alloc (.cells #[.int .i64 x1, .string x2, .int .u32 x3, .int .i64 x4, .int .u32 x5, .int .i64 x6, .int .i64 (x7 : Int), .slice x8 x9 x10] 107)) wr.heap.size #[.int .i64 x1, .string x2, .int .u32 x3, .int .i64 x4, .int .u32 x5, .int .i64 x6, .int .i64 (x7 : Int), .slice x8 x9 x10] 107 := blkNew rfl
   have ho1 : tagged wr o 0 wr.heap.size = 0 := tagged_new (Nat.le_refl _)
   have HCF := Lib.hid (containsFunc_ok (wr.alloc (.cells #[.int .i64 x1, .string x2, .int .u32 x3, .int .i64 x4, .int .u32 x5, .int .i64 x6, .int .i64 (x7 : Int), .slice x8 x9 x10] 107)) _ (t + 12 + i) ⟨some ⟨gb, 0, none⟩, zn, zc⟩ ps H1.out.rows (by have := hpz.2; omega) 128 #[pt wr.heap.size] (fun y : EP => olderB ⟨⟨x1, x2, x3, x4, x5, x6⟩, (x7 : Int), xs⟩ y.en) (fun y _ W hW => older_ok y (EP.mk ⟨⟨x1, x2, x3, x4, x5, x6⟩, (x7 : Int), xs⟩ ⟨x8, x9, x10⟩) W wr.heap.size (hb1.below hW)) (enters 128 Tryz.func128 (by kernel_rfl) rfl))
   rw [hps] at HCF
   have hE := enters 128 Tryz.func128 (by kernel_rfl) rfl
   have HBK := Lib.hid (And.intro hb1 ho1)
   have HPN := Lib.hid (show prs.length < 2 ^ 31 → True from fun _ => trivial)
   have HZL := Lib.hid (ow_len (show Ow enK 107 wr o 3 zr prs from Kd.R_mono H.rt (fun q hq => hq.1))).1
   clear H hgo hps k1 hb1 ho1 hpz
   go_upto_region 7 with (fail)
   generalize wr.alloc (.cells #[.int .i64 x1, .string x2, .int .u32 x3, .int .i64 x4, .int .u32 x5, .int .i64 x6, .int .i64 (x7 : Int), .slice x8 x9 x10] 107) = v1 at *
   generalize tagged wr o 0 = o1 at *
   generalize wr.heap.size = eb at *
   have hz4 := Blk.cell (i := 4) H1.out.bk rfl
   unfold Sl.enc at hz4
   obtain ⟨bo, hbo⟩ : ∃ bo, (S.ar i).ents.any (olderB ⟨⟨x1, x2, x3, x4, x5, x6⟩, (x7 : Int), xs⟩) = bo := ⟨_, rfl⟩
   rw [hbo] at HCF
   have hgo := HGO.out
   rw [hbo] at hgo
   clear hbo HGO e0 e1 e2 e3 e4 e5 e6 e7
   have hF : ∀ (W : World), Below v1.heap.size v1 W → W.cell? ⟨eb, 0, none⟩ = some (.int .i64 x1) ∧ W.cell? ⟨eb, 1, none⟩ = some (.string x2) ∧ W.cell? ⟨eb, 2, none⟩ = some (.int .u32 x3) ∧ W.cell? ⟨eb, 3, none⟩ = some (.int .i64 x4) ∧ W.cell? ⟨eb, 4, none⟩ = some (.int .u32 x5) ∧ W.cell? ⟨eb, 5, none⟩ = some (.int .i64 x6) ∧ W.cell? ⟨eb, 6, none⟩ = some (.int .i64 (x7 : Int)) ∧ W.cell? ⟨eb, 7, none⟩ = some (.slice x8 x9 x10) := fun W h => ⟨cellOf h (Blk.cell (i := 0) HBK.out.1 rfl), cellOf h (Blk.cell (i := 1) HBK.out.1 rfl), cellOf h (Blk.cell (i := 2) HBK.out.1 rfl), cellOf h (Blk.cell (i := 3) HBK.out.1 rfl), cellOf h (Blk.cell (i := 4) HBK.out.1 rfl), cellOf h (Blk.cell (i := 5) HBK.out.1 rfl), cellOf h (Blk.cell (i := 6) HBK.out.1 rfl), cellOf h (Blk.cell (i := 7) HBK.out.1 rfl)⟩
   have HF := Lib.hid hF
   clear hF
   cases bo
   ·
    rw [if_neg (by decide)] at hgo
    have HGO := Lib.hid hgo
    clear hgo
    go_wp2_with (first
     | (go_at_call 92; refine Calls.mono HCF.out ?_; rintro e w4 ⟨rfl, hb4⟩; obtain ⟨y0, y1, y2, y3, y4, y5, y6, y7⟩ := HF.out w4 hb4; have H4 := Lib.hid (H1.out.move (Kp.below (ts := fun _ => False) hb4 0)); clear hb4)
     | (at_builtin; refine Kd.R_append enK (w0 := w4) (W := w4) 0 rfl (.tmp 29) (.tmp 31) 100 107 (.agg #[.int .i64 0, .string ⟨#[]⟩, .int .u32 0, .int .i64 0, .int .u32 0, .int .i64 0, .int .i64 0, .slice none 0 0]) 88 rfl Tryz.underlying100 info107 rfl (by decide) (by decide) zr.enc prs (EP.mk ⟨⟨x1, x2, x3, x4, x5, x6⟩, (x7 : Int), xs⟩ ⟨x8, x9, x10⟩) [.int .i64 x1, .string x2, .int .u32 x3, .int .i64 x4, .int .u32 x5, .int .i64 x6, .int .i64 (x7 : Int), .slice x8 x9 x10] (fun q => tagged w4 (tagged v1 o1 0) 3 q = 3 ∧ w.heap.size ≤ q) (fun _ => False) rfl rfl rfl (fun _ h => h.elim) (fun q hq => ⟨tagged_new hq, Nat.le_trans H4.out.kp.size hq⟩) (rt0 H4.out.rt) (Below.refl _ _) (Nat.zero_le _) (by have h1 := H4.out.rl; rw [← H4.out.re.1, List.length_map] at h1; omega) ?_; intro v6 w6 ho hbb hg hat; obtain ⟨A6, m6, hv6, _, _⟩ := Kd.R_reads ho; subst hv6; have H6 := Lib.hid (H4.out.stay ht HX.out.2 (z1 := ⟨A6, (prs ++ [(EP.mk ⟨⟨x1, x2, x3, x4, x5, x6⟩, (x7 : Int), xs⟩ ⟨x8, x9, x10⟩)]).length, m6⟩) ho hg); clear ho hbb hg hat))
    exact ⟨⟨k + 1, _, ⟨A6, (prs ++ [(EP.mk ⟨⟨x1, x2, x3, x4, x5, x6⟩, (x7 : Int), xs⟩ ⟨x8, x9, x10⟩)]).length, m6⟩, _, _, _, _, by omega, by go_num, by simp [List.length_append], rfl, HGO.out, H6.out⟩, by simp [intOf]; omega⟩
   ·
    rw [if_pos rfl] at hgo
    have HGO := Lib.hid hgo
    clear hgo
    have HBY := Lib.hid (fun W => bytes_ok W ⟨x1, x2, x3, x4, x5, x6⟩ HX.out.1 0)
    go_upto_region 10 with (go_at_call 92; refine Calls.mono HCF.out ?_; rintro e w4 ⟨rfl, hb4⟩; obtain ⟨y0, y1, y2, y3, y4, y5, y6, y7⟩ := HF.out w4 hb4; have HB4 := Lib.hid hb4; clear hb4)
    have H4 := Lib.hid (H1.out.move (Kp.below (ts := fun _ => False) HB4.out 0))
    generalize tagged v1 o1 0 = o4 at *
    have hS10 : (fun w' => w'.cell? ⟨eb, 0, none⟩ = some (.int .i64 x1) ∧ w'.cell? ⟨eb, 1, none⟩ = some (.string x2) ∧ w'.cell? ⟨eb, 2, none⟩ = some (.int .u32 x3) ∧ w'.cell? ⟨eb, 3, none⟩ = some (.int .i64 x4) ∧ w'.cell? ⟨eb, 4, none⟩ = some (.int .u32 x5) ∧ w'.cell? ⟨eb, 5, none⟩ = some (.int .i64 x6) ∧ w'.cell? ⟨eb, 6, none⟩ = some (.int .i64 (x7 : Int))) w4 := ⟨y0, y1, y2, y3, y4, y5, y6⟩
    obtain ⟨fu, hfu⟩ : ∃ fu, b.full = fu := ⟨_, rfl⟩
    have hgo := HGO.out
    rw [hfu] at hgo
    simp only [Int.toNat_natCast] at hgo
    have hfr : ∀ W, Below w4.drew.heap.size w4.drew W → Below w4.heap.size w4 W := fun W h => (Below.refl _ w4).drew.trans h
    clear y0 y1 y2 y3 y4 y5 y6 y7 HGO
    cases fu
    ·
     rw [if_neg (by decide)] at hgo
     have HGO := Lib.hid hgo
     have HU := Lib.hid (headS_ok HX.out.1 (f := 0) (by decide))
     have HWO := Lib.hid (fun (W : World) (h : Below w4.drew.heap.size w4.drew W) (A : Option Addr) (f1 : BytesAt W A 512 (headS ⟨x1, x2, x3, x4, x5, x6⟩ 0)) (f2 : ∀ a, A = some a → w4.drew.heap.size ≤ a.block) =>
      swrite_ok W (tagged w4 o4 0) t gs b (H4.out.mem.st.keep (Kp.below (ts := fun _ => False) (hfr W h) 0) (fun q => q) (fun q => q) (fun q => q) (fun q => q)) g (ga i) (S.ar i).frm x7 (cellOf (hfr W h) H4.out.mem.c0) (cellOf (hfr W h) (ar_c1 (H4.out.mem.ar i hi)).2.1) (by rw [H4.out.bn]; exact hat) H4.out.bok.fit A 512 _ (by omega) 0 (by omega) ⟨f1, Nat.le_refl _, fun a ha _ => tagged_new (f2 a ha)⟩ hfu)
     clear hgo hfu
     refine start_ (n := 9) (S := fun w' => w'.cell? ⟨eb, 0, none⟩ = some (.int .i64 x1) ∧ w'.cell? ⟨eb, 1, none⟩ = some (.string x2) ∧ w'.cell? ⟨eb, 2, none⟩ = some (.int .u32 x3) ∧ w'.cell? ⟨eb, 3, none⟩ = some (.int .i64 x4) ∧ w'.cell? ⟨eb, 4, none⟩ = some (.int .u32 x5) ∧ w'.cell? ⟨eb, 5, none⟩ = some (.int .i64 x6) ∧ w'.cell? ⟨eb, 6, none⟩ = some (.int .i64 (x7 : Int))) (ds := [7]) #[false, false, false, false, false, false, false, false, false] (by kernel_rfl) rfl rfl hS10 (fun hHeld => ?_)
     refine pu_ (i := 0) (N := some 33) (v := ?_) (a' := ?_) rfl rfl (by kernel_rfl) (fun _ _ _ h => h) (by rfl) ?_ ?_ ?_
     rotate_left
     · (intro w'; go_simp; with_reducible rfl)
     rotate_left
     · (simp only [put_s, List.set, i64_w, i32_w]; rfl)
     refine pu_ (i := 1) (N := some 34) (v := ?_) (a' := ?_) rfl rfl (by kernel_rfl) (fun _ _ _ h => h) (by rfl) ?_ ?_ ?_
     rotate_left
     · (intro w'; go_simp; with_reducible rfl)
     rotate_left
     · (simp only [put_s, List.set, i64_w, i32_w]; rfl)
     refine pu_ (i := 2) (N := some 35) (v := ?_) (a' := ?_) rfl rfl (by kernel_rfl) (fun _ _ _ h => h) (by rfl) ?_ ?_ ?_
     rotate_left
     · (intro w'; go_simp; with_reducible rfl)
     rotate_left
     · (simp only [put_s, List.set, i64_w, i32_w]; rfl)
     refine tk_ (i := 3) (N := some 36) (v := ?_) (a' := ?_) rfl rfl (by kernel_rfl) (fun _ _ _ h => h) (by rfl) ?_ hHeld ?_ ?_
     rotate_left
     ·
      intro w' s0
      obtain ⟨q1, q2, q3, q4, q5, q6, q7⟩ := s0
      go_simp
      with_reducible rfl
     rotate_left
     · (simp only [put_s, List.set, i64_w, i32_w]; rfl)
     refine pu_ (i := 4) (N := some 37) (v := ?_) (a' := ?_) rfl rfl (by kernel_rfl) (fun _ _ _ h => h) (by rfl) ?_ ?_ ?_
     rotate_left
     · (intro w'; go_simp; with_reducible rfl)
     rotate_left
     · (simp only [put_s, List.set, i64_w, i32_w]; rfl)
     refine tk_ (i := 5) (N := some 38) (v := ?_) (a' := ?_) rfl rfl (by kernel_rfl) (fun _ _ _ h => h) (by rfl) ?_ hHeld ?_ ?_
     rotate_left
     ·
      intro w' s0
      obtain ⟨q1, q2, q3, q4, q5, q6, q7⟩ := s0
      go_simp
      with_reducible rfl
     rotate_left
     · (simp only [put_s, List.set, i64_w, i32_w]; rfl)
     refine on_ (i := 6) (N := some 39) rfl rfl (by kernel_rfl) (by decide) (fun K hK => ?_)
     refine goes_ Tryz.func97 (by kernel_rfl) rfl #[.agg #[.int .i64 x1, .string x2, .int .u32 x3, .int .i64 x4, .int .u32 x5, .int .i64 x6], .int .u8 0] (by first | rfl | (simp [Act.eval]; done)) rfl rfl (by first | rfl | (simp [Act.eval]; done)) ?_
     refine Calls.mono (HBY.out _) ?_
     rintro e w5 ⟨A5, rfl, f1, f2, f3⟩
     refine ⟨_, rfl, ?_⟩
     refine hK.out _ _ ⟨cellOf f3 hHeld.1, cellOf f3 hHeld.2.1, cellOf f3 hHeld.2.2.1, cellOf f3 hHeld.2.2.2.1, cellOf f3 hHeld.2.2.2.2.1, cellOf f3 hHeld.2.2.2.2.2.1, cellOf f3 hHeld.2.2.2.2.2.2⟩ (fun hHeld => ?_)
     clear hK K
     refine norm_ (a' := ?_) ?_ ?_
     rotate_left
     ·
      show Act.put _ (some 39) _ = _
      simp only [put_s, List.set, i64_w, i32_w]
      rfl
     refine la_ (i := 7) (N := some 40) rfl rfl (by kernel_rfl) (by decide) (fun K hK => ?_)
     refine goes_ Tryz.func95 (by kernel_rfl) rfl #[pt g, pt (ga i), .int .i64 (x7 : Int), .slice A5 512 512] (by first | rfl | (simp [Act.eval]; done)) rfl rfl (by first | rfl | (simp [Act.eval]; done)) ?_
     refine Calls.mono (HWO.out w5 f3 A5 f1 f2) ?_
     rintro e w6 ⟨rfl, o6, st6, k6⟩
     refine ⟨_, rfl, ?_⟩
     refine hK.out _ _ ?_
     clear hK K
     refine norm_ (a' := ?_) ?_ ?_
     rotate_left
     ·
      show Act.put _ (some 40) _ = _
      simp only [put_s, List.set, i64_w, i32_w]
      rfl
     refine pu_ (i := 8) (N := some 11) (v := ?_) (a' := ?_) rfl rfl (by kernel_rfl) (fun _ _ _ h => h) (by rfl) ?_ ?_ ?_
     rotate_left
     · (intro w'; go_simp; with_reducible rfl)
     rotate_left
     · (simp only [put_s, List.set, i64_w, i32_w]; rfl)
     refine done_ (by kernel_rfl) ?_
     have H6 := Lib.hid ((H4.out.move (Kp.below (ts := fun _ => False) (hfr w5 f3) 0)).struck ht hi hat HU.out.1 HU.out.2 (by have := HPP.out; omega) st6 k6)
     clear st6 k6 f1 f2 f3 hHeld hS10
     go_wp2_with fail
     exact ⟨⟨k + 1, _, zr, _, _, _, _, by omega, by go_num, rfl, rfl, HGO.out, H6.out⟩, by simp [intOf]; omega⟩
    ·
     rw [if_pos rfl] at hgo
     have HGO := Lib.hid hgo
     have HWF := Lib.hid (fun (W : World) (h : Below w4.drew.heap.size w4.drew W) (A : Option Addr) =>
      swrite_full W (tagged w4 o4 0) t gs b (H4.out.mem.st.keep (Kp.below (ts := fun _ => False) (hfr W h) 0) (fun q => q) (fun q => q) (fun q => q) (fun q => q)) g (ga i) (S.ar i).frm x7 (cellOf (hfr W h) H4.out.mem.c0) (cellOf (hfr W h) (ar_c1 (H4.out.mem.ar i hi)).2.1) (by rw [H4.out.bn]; exact hat) H4.out.bok.fit A 512 hfu)
     clear hgo hfu
     refine start_ (n := 9) (S := fun w' => w'.cell? ⟨eb, 0, none⟩ = some (.int .i64 x1) ∧ w'.cell? ⟨eb, 1, none⟩ = some (.string x2) ∧ w'.cell? ⟨eb, 2, none⟩ = some (.int .u32 x3) ∧ w'.cell? ⟨eb, 3, none⟩ = some (.int .i64 x4) ∧ w'.cell? ⟨eb, 4, none⟩ = some (.int .u32 x5) ∧ w'.cell? ⟨eb, 5, none⟩ = some (.int .i64 x6) ∧ w'.cell? ⟨eb, 6, none⟩ = some (.int .i64 (x7 : Int))) (ds := [7]) #[false, false, false, false, false, false, false, false, false] (by kernel_rfl) rfl rfl hS10 (fun hHeld => ?_)
     refine pu_ (i := 0) (N := some 33) (v := ?_) (a' := ?_) rfl rfl (by kernel_rfl) (fun _ _ _ h => h) (by rfl) ?_ ?_ ?_
     rotate_left
     · (intro w'; go_simp; with_reducible rfl)
     rotate_left
     · (simp only [put_s, List.set, i64_w, i32_w]; rfl)
     refine pu_ (i := 1) (N := some 34) (v := ?_) (a' := ?_) rfl rfl (by kernel_rfl) (fun _ _ _ h => h) (by rfl) ?_ ?_ ?_
     rotate_left
     · (intro w'; go_simp; with_reducible rfl)
     rotate_left
     · (simp only [put_s, List.set, i64_w, i32_w]; rfl)
     refine pu_ (i := 2) (N := some 35) (v := ?_) (a' := ?_) rfl rfl (by kernel_rfl) (fun _ _ _ h => h) (by rfl) ?_ ?_ ?_
     rotate_left
     · (intro w'; go_simp; with_reducible rfl)
     rotate_left
     · (simp only [put_s, List.set, i64_w, i32_w]; rfl)
     refine tk_ (i := 3) (N := some 36) (v := ?_) (a' := ?_) rfl rfl (by kernel_rfl) (fun _ _ _ h => h) (by rfl) ?_ hHeld ?_ ?_
     rotate_left
     ·
      intro w' s0
      obtain ⟨q1, q2, q3, q4, q5, q6, q7⟩ := s0
      go_simp
      with_reducible rfl
     rotate_left
     · (simp only [put_s, List.set, i64_w, i32_w]; rfl)
     refine pu_ (i := 4) (N := some 37) (v := ?_) (a' := ?_) rfl rfl (by kernel_rfl) (fun _ _ _ h => h) (by rfl) ?_ ?_ ?_
     rotate_left
     · (intro w'; go_simp; with_reducible rfl)
     rotate_left
     · (simp only [put_s, List.set, i64_w, i32_w]; rfl)
     refine tk_ (i := 5) (N := some 38) (v := ?_) (a' := ?_) rfl rfl (by kernel_rfl) (fun _ _ _ h => h) (by rfl) ?_ hHeld ?_ ?_
     rotate_left
     ·
      intro w' s0
      obtain ⟨q1, q2, q3, q4, q5, q6, q7⟩ := s0
      go_simp
      with_reducible rfl
     rotate_left
     · (simp only [put_s, List.set, i64_w, i32_w]; rfl)
     refine on_ (i := 6) (N := some 39) rfl rfl (by kernel_rfl) (by decide) (fun K hK => ?_)
     refine goes_ Tryz.func97 (by kernel_rfl) rfl #[.agg #[.int .i64 x1, .string x2, .int .u32 x3, .int .i64 x4, .int .u32 x5, .int .i64 x6], .int .u8 0] (by first | rfl | (simp [Act.eval]; done)) rfl rfl (by first | rfl | (simp [Act.eval]; done)) ?_
     refine Calls.mono (HBY.out _) ?_
     rintro e w5 ⟨A5, rfl, f1, f2, f3⟩
     refine ⟨_, rfl, ?_⟩
     refine hK.out _ _ ⟨cellOf f3 hHeld.1, cellOf f3 hHeld.2.1, cellOf f3 hHeld.2.2.1, cellOf f3 hHeld.2.2.2.1, cellOf f3 hHeld.2.2.2.2.1, cellOf f3 hHeld.2.2.2.2.2.1, cellOf f3 hHeld.2.2.2.2.2.2⟩ (fun hHeld => ?_)
     clear hK K
     refine norm_ (a' := ?_) ?_ ?_
     rotate_left
     ·
      show Act.put _ (some 39) _ = _
      simp only [put_s, List.set, i64_w, i32_w]
      rfl
     refine la_ (i := 7) (N := some 40) rfl rfl (by kernel_rfl) (by decide) (fun K hK => ?_)
     refine goes_ Tryz.func95 (by kernel_rfl) rfl #[pt g, pt (ga i), .int .i64 (x7 : Int), .slice A5 512 512] (by first | rfl | (simp [Act.eval]; done)) rfl rfl (by first | rfl | (simp [Act.eval]; done)) ?_
     refine Calls.mono (HWF.out w5 f3 A5) ?_
     rintro e w6 ⟨rfl, k6, rfl⟩
     refine ⟨_, rfl, ?_⟩
     refine hK.out _ _ ?_
     clear hK K
     refine norm_ (a' := ?_) ?_ ?_
     rotate_left
     ·
      show Act.put _ (some 40) _ = _
      simp only [put_s, List.set, i64_w, i32_w]
      rfl
     refine pu_ (i := 8) (N := some 11) (v := ?_) (a' := ?_) rfl rfl (by kernel_rfl) (fun _ _ _ h => h) (by rfl) ?_ ?_ ?_
     rotate_left
     · (intro w'; go_simp; with_reducible rfl)
     rotate_left
     · (simp only [put_s, List.set, i64_w, i32_w]; rfl)
     refine done_ (by kernel_rfl) ?_
     have H6 := Lib.hid ((H4.out.move (Kp.below (ts := fun _ => False) (hfr w5 f3) 0)).move (Kp.below (ts := fun _ => False) (bdrew _ w5 k6) 0))
     clear f1 f2 f3 hHeld hS10
     unfold refusedV
     go_wp2_with fail
     go_ret2
     rw [← HGO.out]
     exact ⟨rfl, _, H6.out.mem, H6.out.kp, H6.out.bok, H6.out.bn⟩
  ·
   obtain rfl : k = zn := by omega
   have dl : decide ((k : Int) < (k : Int)) = false := by simp
   have hpz := HPZ.out
   rw [List.drop_eq_nil_of_le (by omega)] at hgo
   unfold newGo at hgo
   have HGO := Lib.hid hgo
   have HH := Lib.hid H
   have HF := Lib.hid (H.fin ht hi)
   have z4 : wr.cell? ⟨ga i, 4, none⟩ = some (.slice zA k zc) := Blk.cell (i := 4) H.bk rfl
   have f4 : wr.frozen? ⟨ga i, 4, none⟩ = false := Blk.frozen H.bk
   clear hgo H hpz
   go_wp2_with fail
   go_ret2
   rw [← HGO.out]
   obtain ⟨o', m1, m2⟩ := HF.out
   exact ⟨rfl, o', m1, m2, HH.out.bok, HH.out.bn, by show b.pend.length ≤ _; have h1 := HH.out.pn; have := HPZ.out; omega⟩
end Go.Proofs.YtmofiicjaldmiaaGreatDoor.SyC
end
section
namespace Go.Proofs.YtmofiicjaldmiaaGreatDoor.SwV
open Go.RowKit Go.Shelf YtmofiicjaldmiaaGreatDoorW.PrintWords YtmofiicjaldmiaaGreatDoorW.PrintLast SvA SvB SvC SvD SvE SvF SvG SvH SvI SvJ SvK SvL SvM SvN SvO SvP SvQ SvR SvS SvT SvU SvV SvW SvX SvY SvZ SwA SwB SwC SwD SwE SwF SwG SwI SwJ SwK SwH SwL SwM SwN SwO SwP SwQ SwR SwS SwT
set_option linter.unusedVariables false
set_option linter.unusedSimpArgs false
open Go.Lib Go.Sort
theorem delR_no {S : SV} {i : Nat} {name : ByteArray} (h : (delR S i name).2 ≠ 0) : (delR S i name).1 = S ∧ (delR S i name).2 = 111 := by
 unfold delR at h ⊢
 rcases ho : oldS (S.ar i) name with _ | ⟨k, y⟩
 · exact ⟨rfl, rfl⟩
 · rw [ho] at h; exact absurd rfl h
theorem nmS_inj {a b : Nat} (ha : a < 6) (hb : b < 6) (h : nmS a = nmS b) : a = b := by
  rcases (show a = 0 ∨ a = 1 ∨ a = 2 ∨ a = 3 ∨ a = 4 ∨ a = 5 by omega) with rfl | rfl | rfl | rfl | rfl | rfl <;> rcases (show b = 0 ∨ b = 1 ∨ b = 2 ∨ b = 3 ∨ b = 4 ∨ b = 5 by omega) with rfl | rfl | rfl | rfl | rfl | rfl <;> first | rfl | (revert h; decide)
end Go.Proofs.YtmofiicjaldmiaaGreatDoor.SwV
end
section
namespace Go.Proofs.YtmofiicjaldmiaaGreatDoor.SxH
open Go.RowKit Go.Shelf YtmofiicjaldmiaaGreatDoorW.PrintWords YtmofiicjaldmiaaGreatDoorW.PrintLast SvA SvB SvC SvD SvE SvF SvG SvH SvI SvJ SvK SvL SvM SvN SvO SvP SvQ SvR SvS SvT SvU SvV SvW SvX SvY SvZ SwA SwB SwC SwD SwE SwF SwG SwI SwJ SwK SwH SwL SwM SwN SwO SwP SwQ SwR SwS SwT SwX SwY
set_option linter.unusedVariables false
set_option linter.unusedSimpArgs false
open Go.Lib
def TN (S : SV) : Prop := ∀ t, t < 8 → ∀ e ∈ (S.ar t).ents, e.hd.ten = (t : Int) + 1
theorem TN.start (b : BS) : TN (S0 b) := fun t _ e he => by cases he
theorem TN.act {S : SV} (h : TN S) (a : AC) (most : Int) : TN (doS S a most).1 := by
 intro t ht e he
 by_cases hj : t = a.t0
 ·
  subst hj
  unfold doS at he
  cases hp : a.puts
  ·
   rw [hp, if_neg (by decide), (delR_at _ _ _).1] at he
   unfold delA at he
   rcases ho : oldS (S.ar a.t0) a.name with _ | ⟨k, e'⟩
   · rw [ho] at he; exact h _ ht e he
   ·
    rw [ho] at he
    exact h _ ht e (List.mem_of_mem_eraseIdx he)
  ·
   rw [hp, if_pos rfl, (putR_at _ _ _ _).1] at he
   unfold putA at he
   split at he
   ·
    dsimp only at he
    rcases List.mem_append.1 he with he | he
    ·
     refine h _ ht e ?_
     generalize oldS (S.ar a.t0) a.name = od at he
     rcases od with _ | ⟨k, e'⟩
     · exact he
     · exact List.mem_of_mem_eraseIdx he
    ·
     simp at he
     subst he
     rfl
   · exact h _ ht e he
 ·
  rw [doS_ar S a most t hj] at he
  exact h t ht e he
end Go.Proofs.YtmofiicjaldmiaaGreatDoor.SxH
end
