/- Texts of Saves: SavesAgain, the walk -/
import Derived.Test.YtmofiicjaldmiaaGreatDoorMd
namespace Go.Proofs.YtmofiicjaldmiaaGreatDoor.SwS
open Go.RowKit Go.Shelf Go.Proofs.YtmofiicjaldmiaaGreatDoorW.PrintWords Go.Proofs.YtmofiicjaldmiaaGreatDoorW.PrintLast Go.Proofs.YtmofiicjaldmiaaGreatDoor.SvA Go.Proofs.YtmofiicjaldmiaaGreatDoor.SvB Go.Proofs.YtmofiicjaldmiaaGreatDoor.SvC Go.Proofs.YtmofiicjaldmiaaGreatDoor.SvD Go.Proofs.YtmofiicjaldmiaaGreatDoor.SvE Go.Proofs.YtmofiicjaldmiaaGreatDoor.SvF Go.Proofs.YtmofiicjaldmiaaGreatDoor.SvG Go.Proofs.YtmofiicjaldmiaaGreatDoor.SvH Go.Proofs.YtmofiicjaldmiaaGreatDoor.SvI Go.Proofs.YtmofiicjaldmiaaGreatDoor.SvJ Go.Proofs.YtmofiicjaldmiaaGreatDoor.SvK Go.Proofs.YtmofiicjaldmiaaGreatDoor.SvL Go.Proofs.YtmofiicjaldmiaaGreatDoor.SvM Go.Proofs.YtmofiicjaldmiaaGreatDoor.SvN Go.Proofs.YtmofiicjaldmiaaGreatDoor.SvO Go.Proofs.YtmofiicjaldmiaaGreatDoor.SvP Go.Proofs.YtmofiicjaldmiaaGreatDoor.SvQ Go.Proofs.YtmofiicjaldmiaaGreatDoor.SvR Go.Proofs.YtmofiicjaldmiaaGreatDoor.SvS Go.Proofs.YtmofiicjaldmiaaGreatDoor.SvT Go.Proofs.YtmofiicjaldmiaaGreatDoor.SvU Go.Proofs.YtmofiicjaldmiaaGreatDoor.SvV Go.Proofs.YtmofiicjaldmiaaGreatDoor.SvW Go.Proofs.YtmofiicjaldmiaaGreatDoor.SvX Go.Proofs.YtmofiicjaldmiaaGreatDoor.SvY Go.Proofs.YtmofiicjaldmiaaGreatDoor.SvZ Go.Proofs.YtmofiicjaldmiaaGreatDoor.SwA Go.Proofs.YtmofiicjaldmiaaGreatDoor.SwB Go.Proofs.YtmofiicjaldmiaaGreatDoor.SwC Go.Proofs.YtmofiicjaldmiaaGreatDoor.SwD Go.Proofs.YtmofiicjaldmiaaGreatDoor.SwE Go.Proofs.YtmofiicjaldmiaaGreatDoor.SwF Go.Proofs.YtmofiicjaldmiaaGreatDoor.SwG Go.Proofs.YtmofiicjaldmiaaGreatDoor.SwI Go.Proofs.YtmofiicjaldmiaaGreatDoor.SwJ Go.Proofs.YtmofiicjaldmiaaGreatDoor.SwK Go.Proofs.YtmofiicjaldmiaaGreatDoor.SwH Go.Proofs.YtmofiicjaldmiaaGreatDoor.SwL Go.Proofs.YtmofiicjaldmiaaGreatDoor.SwM Go.Proofs.YtmofiicjaldmiaaGreatDoor.SwN Go.Proofs.YtmofiicjaldmiaaGreatDoor.SwO Go.Proofs.YtmofiicjaldmiaaGreatDoor.SwP Go.Proofs.YtmofiicjaldmiaaGreatDoor.SwQ Go.Proofs.YtmofiicjaldmiaaGreatDoor.SwR
set_option linter.unusedVariables false
set_option linter.unusedSimpArgs false
open Go.Lib
abbrev again : ByteArray := ⟨#[97, 103, 97, 105, 110]⟩
theorem list_one {w w' : World} {es : List EN} {e : Ending} (h : ListP w es e w') {x : EN} (hx : es = [x]) : ∃ b c, e = .returned (.tuple #[.slice (some ⟨b, 0, none⟩) 1 c, .int .i64 0]) ∧ w'.cell? ⟨b, 0, none⟩ = some (.string x.hd.name) ∧ w'.cell? ⟨b, 1, none⟩ = some (.int .i64 x.hd.ver) ∧ w'.cell? ⟨b, 2, none⟩ = some (.int .i64 x.hd.size) ∧ Below w.heap.size w w' := by
  obtain ⟨z, o, l, rfl, h1, h2, h3, h4, h5⟩ := h
  subst hx
  have hl : l = [infoS x] := List.perm_singleton.1 h4
  subst hl
  have hn : z.n = 1 := (ow_len h1).1.symm
  obtain ⟨gb, hz⟩ := ow_head h1 (by omega)
  obtain ⟨A, n, c⟩ := z
  injection hz with hA _ _
  subst hA
  dsimp only at hn
  subst hn
  obtain ⟨cur, c1, c2, c3, c4, c5, c6⟩ := ow_in h1
  exact ⟨gb, c, rfl, Blk.cell c1 (c6 0 (by omega)), Blk.cell c1 (c6 1 (by omega)), Blk.cell c1 (c6 2 (by omega)), h3⟩
theorem sect_ok (w : World) (own : Nat → Nat) (t gs : Nat) (b : BS) (H : StA w own t gs b) (hz : b.safe.length < 2 ^ 40) : Calls Tryz.prog 22 #[pt gs] w fun e w' => e = .returned (.int .i64 (b.n : Int)) ∧ w = w' := by
  obtain ⟨zs, zp, ps, hg, hbs, hs, hpe, hd⟩ := H
  have hzl : zs.n = b.safe.length := (ow_len hs).1.symm
  have h := sectors_ok w gs zs _ _ _ hbs (by rw [hzl]; exact hz)
  rw [hzl] at h
  exact h
theorem kp_zero {ts : Nat → Prop} {w w' : World} (h : Below w.heap.size w w') : Kp ts w (fun _ => 0) w' (fun _ => 0) := ⟨h.os, h.tape, h.output, h.size, fun k hk _ => ⟨rfl, h.block k hk⟩⟩
/-- behind k puts -/
def AgP (S : SV) (i : Nat) (k n : Nat) : Prop := (k = 0 ∧ (S.ar i).ents = []) ∨ (0 < k ∧ Alone S i again (k : Int) n)
theorem ag_put {S : SV} {N m i k n : Nat} (hg : GS S N m) (hi : i < 8) (h : AgP S i k n) (data : List Int) (hd : data.length = n) (hr : 1 < (S.ar i).heads ∧ many n + many n ≤ (S.ar i).sec - (S.ar i).heads) : (putR S i again data).2 = 0 ∧ Alone (putR S i again data).1 i again ((k + 1 : Nat) : Int) n := by
  subst hd
  rcases h with ⟨rfl, h⟩ | ⟨hk, h⟩
  · exact alone_first hg hi h again data ⟨by omega, by omega⟩
  · exact alone_next hg hi h data hr
theorem ag_del {S : SV} {N m i : Nat} (hg : GS S N m) (hi : i < 8) {v : Int} {n : Nat} (h : Alone S i again v n) : (delR S i again).2 = 0 ∧ ((delR S i again).1.ar i).ents = [] := by
  obtain ⟨e, h1, h2, h3, h4⟩ := h
  unfold delR
  rw [← h2, oldS_one h1]
  refine ⟨rfl, ?_⟩
  show ((delS S i 0 e).ar i).ents = []
  rw [delS_eq, setE_ar, if_pos rfl, h1]
  rfl
/-- how the law stands at the head of a round -/
def AgSt (w : World) (N g gs : Nat) (ga : Nat → Nat) (i n : Nat) (k : Nat) (wr : World) : Prop := ∃ S own' D, SvMem wr own' 100 g gs ga S ∧ GS S N k ∧ CS S D ∧ AgP S i k n ∧ (∀ j, (S.ar j).heads = (N / 8 + 7) / 8 ∧ (S.ar j).sec = N / 8) ∧ Kp (k20 100) w (fun _ => 0) wr own'
set_option maxRecDepth 100000 in
set_option maxHeartbeats 2000000 in
theorem again_walk (a1 a2 a3 a4 : Int) (h1 : i64s a1) (h2 : i64s a2) (h3 : i64s a3) (h4 : i64s a4) (w : World) : Calls Tryz.prog 4 #[.int .i64 a1, .int .i64 a2, .int .i64 a3, .int .i64 a4] w fun e w' => e = .returned (.bool true) ∧ Below w.heap.size w w' := by
  obtain ⟨p, hp⟩ : ∃ p : Nat, pk a1 500 = (p : Int) := ⟨(pk a1 500).toNat, by have := pk_bd a1 500 (by omega); omega⟩
  have hpb : p < 500 := by have := pk_bd a1 500 (by omega); omega
  have HP1 := Lib.hid (fun W => pick_ok a1 500 W h1 (by omega) (by omega))
  rw [hp] at HP1
  clear hp
  have hnew : ∀ W : World, Calls Tryz.prog 16 #[.int .i64 (136 + (p : Int))] W (NewP W (List.replicate (512 * (136 + p)) 0)) := fun W => by
    have := new_ok W (136 + p) (by omega) (by omega)
    rwa [show ((136 + p : Nat) : Int) = 136 + (p : Int) by omega] at this
  have hNb : 136 ≤ 136 + p ∧ 136 + p < 636 := by omega
  generalize hN : 136 + p = N at *
  have HAW := Lib.hid (awake_ok w)
  have HNEW := Lib.hid hnew
  have HN := Lib.hid hN
  clear hnew hN
  have HOP := Lib.hid (fun (W : World) (gs : Nat) (own : Nat → Nat) (H : StA W own 100 gs (BS.fresh (List.replicate (512 * N) 0))) => new_open W N (by omega) (by omega) gs own 100 (by decide) H)
  obtain ⟨g0, c0⟩ := GS.start N (by omega) (fun _ _ => [])
  have hs0e : ∀ i, ((S0 (BS.fresh (List.replicate (512 * N) 0))).ar i).ents = [] := fun _ => rfl
  have hs0h : ∀ i, ((S0 (BS.fresh (List.replicate (512 * N) 0))).ar i).heads = (N / 8 + 7) / 8 ∧ ((S0 (BS.fresh (List.replicate (512 * N) 0))).ar i).sec = N / 8 := fun i => by
    have e := fresh_n N
    constructor
    · show (BS.n _ / 8 + 7) / 8 = _; rw [e]
    · show BS.n _ / 8 = _; rw [e]
  have HSC := Lib.hid (fun (W : World) (own : Nat → Nat) (g gs : Nat) (ga : Nat → Nat) (H : SvMem W own 100 g gs ga (S0 (BS.fresh (List.replicate (512 * N) 0)))) => sect_ok W own 100 gs _ H.st (g0.bok.fit.hz))
  have hbn : (S0 (BS.fresh (List.replicate (512 * N) 0))).b.n = N := g0.bn
  rw [hbn] at HSC
  clear hbn
  generalize S0 (BS.fresh (List.replicate (512 * N) 0)) = s0 at *
  have HINI := Lib.hid (And.intro g0 (And.intro c0 (And.intro hs0e hs0h)))
  clear g0 c0 hs0e hs0h
  obtain ⟨n, hn⟩ : ∃ n : Nat, pk a3 (((N : Int) / 8 - ((N : Int) / 8 + 7) / 8) / 2 * 510 + 1) = (n : Int) := ⟨(pk a3 (((N : Int) / 8 - ((N : Int) / 8 + 7) / 8) / 2 * 510 + 1)).toNat, by have := pk_bd a3 (((N : Int) / 8 - ((N : Int) / 8 + 7) / 8) / 2 * 510 + 1) (by omega); omega⟩
  have hnb : (n : Int) < ((N : Int) / 8 - ((N : Int) / 8 + 7) / 8) / 2 * 510 + 1 := by have := pk_bd a3 (((N : Int) / 8 - ((N : Int) / 8 + 7) / 8) / 2 * 510 + 1) (by omega); omega
  have HP3 := Lib.hid (fun W => pick_ok a3 (((N : Int) / 8 - ((N : Int) / 8 + 7) / 8) / 2 * 510 + 1) W h3 (by omega) (by omega))
  rw [hn] at HP3
  have hn2 : n < 20000 := by omega
  have hmany : 1 < (N / 8 + 7) / 8 ∧ many n + many n ≤ N / 8 - (N / 8 + 7) / 8 := by unfold many; omega
  have HB := Lib.hid hmany
  clear hn hnb hmany
  obtain ⟨ti, hti⟩ : ∃ i : Nat, pk a2 8 = (i : Int) := ⟨(pk a2 8).toNat, by have := pk_bd a2 8 (by omega); omega⟩
  have hti8 : ti < 8 := by have := pk_bd a2 8 (by omega); omega
  have HP2 := Lib.hid (fun W => pick_ok a2 8 W h2 (by omega) (by omega))
  rw [hti] at HP2
  clear hti
  obtain ⟨T, hT⟩ : ∃ i : Nat, pk a4 20 = (i : Int) := ⟨(pk a4 20).toNat, by have := pk_bd a4 20 (by omega); omega⟩
  have hT20 : T < 20 := by have := pk_bd a4 20 (by omega); omega
  have HP4 := Lib.hid (fun W => pick_ok a4 20 W h4 (by omega) (by omega))
  rw [hT] at HP4
  clear hT
  have hda : ∀ W, Calls Tryz.prog 24 #[.agg #[.int .i64 0, .int .i64 0, .int .i64 0, .int .i64 (n : Int)], .int .i64 ((n : Int) + 1)] W (FreshP W n (dataS n n)) := fun W => data_ok0 0 0 0 n ⟨by omega, by omega⟩ ((n : Int) + 1) (by omega) (by omega) n (by unfold pk; rw [if_neg (by omega)]; exact Int.emod_eq_of_lt (by omega) (by omega)) W
  have HDA := Lib.hid hda
  clear hda
  have hdl : (dataS n n).length = n := dataS_len _ _
  have hdu : u8s (dataS n n) := dataS_u8 _ _
  generalize dataS n n = dt at *
  go_enter Tryz.func4, Tryz.ntmps4
  go_upto_region 10 with (first
    | (go_at_call 14; refine HAW.out.mono ?_; rintro e w0 ⟨rfl, hb0⟩; have HB0 := Lib.hid hb0; clear hb0)
    | (go_at_call 15; (with_reducible refine (HP1.out _).mono ?_); rintro e w' ⟨rfl, rfl⟩)
    | (go_at_call 15; (with_reducible refine (HP3.out _).mono ?_); rintro e w' ⟨rfl, rfl⟩)
    | (go_at_call 15; (with_reducible refine (HP2.out _).mono ?_); rintro e w' ⟨rfl, rfl⟩)
    | (go_at_call 16; refine (HNEW.out _).mono ?_; rintro e w1 ⟨gs, rfl, hgs, hb1, hN⟩; obtain ⟨o1, st1, k1⟩ := hN (fun _ => 0) 100; have K1 := Lib.hid k1; have ST1 := Lib.hid st1; clear k1 st1 hN hgs hb1)
    | (go_at_call 17; refine Calls.mono (HOP.out _ gs o1 ST1.out) ?_; rintro e w2 ⟨g, o2, ga, rfl, hg2x, M2, k2⟩; have K2 := Lib.hid (And.intro M2 k2); clear M2 k2 hg2x)
    | (go_at_call 22; refine Calls.mono (HSC.out w2 o2 g gs ga K2.out.1) ?_; rintro e w' ⟨rfl, rfl⟩))
  have hk2 : Kp (k20 100) w (fun _ => 0) w2 o2 := ((kp_zero HB0.out).trans (K1.out.mono (fun _ h => h.elim))).trans K2.out.2
  have HST := Lib.hid (show AgSt w N g gs ga ti n 0 w2 from ⟨s0, o2, _, K2.out.1, HINI.out.1, HINI.out.2.1, .inl ⟨rfl, HINI.out.2.2.1 ti⟩, HINI.out.2.2.2, hk2⟩)
  rw [show (1 : Int) + (ti : Int) = (ti : Int) + 1 from Int.add_comm _ _]
  clear hk2
  go_wp2_with fail
  go_loopw [18, 19, 20, 21, 22, 23] (fun v _ _ _ _ _ wr => ∃ k : Nat, k ≤ T + 1 ∧ v = .int .i64 ((k : Int) + 1) ∧ AgSt w N g gs ga ti n k wr) (fun v _ _ _ _ _ _ => T + 2 - (intOf v).toNat)
  case atStart => exact ⟨0, by omega, rfl, HST.out⟩
  case round =>
    obtain ⟨k, hk, rfl, S, own', D, M, G, C, P, geo, kp⟩ := hrel
    by_cases hlt : k < T + 1
    · have dl : decide ((k : Int) + 1 ≤ 1 + (T : Int)) = true := by simp; omega
      have hr : 1 < (S.ar ti).heads ∧ many n + many n ≤ (S.ar ti).sec - (S.ar ti).heads := by rw [(geo ti).1, (geo ti).2]; exact HB.out
      obtain ⟨r1, al⟩ := ag_put G hti8 P dt hdl hr
      obtain ⟨G2, C2⟩ := putR_all G C ti hti8 again (by decide) dt hdu (by omega) (by omega)
      have geo2 := fun j => putR_geo S ti again dt j
      have hu := (Alone.used G2 hti8 al).1
      have HPUT := Lib.hid (fun (W : World) (h : Below wr.heap.size wr W) (A : Option Addr) (hB : BytesAt W A n dt) (hA : ∀ q, A = some q → wr.heap.size ≤ q.block) => put_at wr own' 100 g gs ga S M (by decide) G (by omega) W h ti hti8 again (by decide) A n n dt hB (Nat.le_refl _) hA hdu (by omega))
      generalize hS2 : putR S ti again dt = S2 at *
      have HL := Lib.hid (fun (W : World) (o : Nat → Nat) (H : SvMem W o 100 g gs ga S2.1) => list_at W o 100 g gs ga S2.1 H G2 W (Below.refl _ _) ti hti8)
      have HU := Lib.hid (fun (W0 : World) (o : Nat → Nat) (H : SvMem W0 o 100 g gs ga S2.1) (W : World) (h : Below W0.heap.size W0 W) => used_at W0 o 100 g gs ga S2.1 H G2 W h ti hti8)
      have hui : ((usedS (S2.1.ar ti).ents : Nat) : Int) = 1 + ((n : Int) + 509) / 510 := by rw [hu]; unfold many; omega
      rw [hui] at HU
      obtain ⟨x, hx1, hx2, hx3, hx4⟩ := al
      have R1 := Lib.hid r1
      have HNX := Lib.hid (fun (W : World) (o : Nat → Nat) (H : SvMem W o 100 g gs ga S2.1) (hk : Kp (k20 100) w (fun _ => 0) W o) => (show AgSt w N g gs ga ti n (k + 1) W from ⟨S2.1, o, _, H, G2, C2, .inr ⟨by omega, x, hx1, hx2, hx3, hx4⟩, fun j => by rw [(geo2 j).1, (geo2 j).2]; exact geo j, hk⟩))
      have HX := Lib.hid hx1
      have HKP := Lib.hid kp
      clear M G C P geo kp G2 C2 geo2 hu hui hr r1 hx1 hS2
      go_wp2_with (first
        | (go_at_call 15; (with_reducible refine (HP4.out _).mono ?_); rintro e w' ⟨rfl, rfl⟩)
        | (go_at_call 24; (with_reducible refine Calls.mono (HDA.out _) ?_); rintro e w3 ⟨A, rfl, f1, f2, f3⟩; have F := Lib.hid (And.intro f1 (And.intro f2 f3)); clear f1 f2 f3)
        | (go_at_call 23; (with_reducible refine Calls.mono (HPUT.out w3 F.out.2.2 A F.out.1 (fun q hq => F.out.2.1 q hq)) ?_); intro e w4 h4; obtain ⟨rfl, o4, M4, k4⟩ := ActR.ok h4 R1.out; have K4 := Lib.hid (And.intro M4 k4); clear M4 k4 h4)
        | (go_at_call 25; (with_reducible refine Calls.mono (HL.out w4 o4 K4.out.1) ?_); intro e w5 h5; obtain ⟨lb, lc, rfl, l0, l1, l2, l3⟩ := list_one h5 HX.out; rw [hx2] at l0; rw [hx3] at l1; rw [hx4] at l2; have L3 := Lib.hid l3; clear h5 l3)
        | (go_at_call 20; (with_reducible refine Calls.mono (HU.out w4 o4 K4.out.1 w5 L3.out) ?_); rintro e w6 ⟨rfl, hb6⟩; have l0' := cellOf hb6 l0; have l1' := cellOf hb6 l1; have l2' := cellOf hb6 l2; have HB6 := Lib.hid hb6; clear l0 l1 l2 hb6))
      case roundEnd =>
        refine ⟨⟨k + 1, by omega, by go_num, HNX.out w6 _ ((K4.out.1).below (L3.out.trans (HB6.out.mono L3.out.size))) ((HKP.out.trans K4.out.2).trans (Kp.below (L3.out.trans (HB6.out.mono L3.out.size)) 0))⟩, by simp [intOf]; omega⟩
    · have dl : decide ((k : Int) + 1 ≤ 1 + (T : Int)) = false := by simp; omega
      have al : Alone S ti again (k : Int) n := by
        rcases P with ⟨h, _⟩ | ⟨_, h⟩
        · omega
        · exact h
      obtain ⟨r1, hemp⟩ := ag_del G hti8 al
      obtain ⟨G2, C2⟩ := delR_all G C ti hti8 again
      have HDEL := Lib.hid (del_at wr own' 100 g gs ga S M (by decide) G wr (Below.refl _ _) ti hti8 again (by decide))
      generalize hS2 : delR S ti again = S2 at *
      have HU := Lib.hid (fun (W0 : World) (o : Nat → Nat) (H : SvMem W0 o 100 g gs ga S2.1) => used_at W0 o 100 g gs ga S2.1 H G2 W0 (Below.refl _ _) ti hti8)
      rw [hemp] at HU
      have R1 := Lib.hid r1
      have HKP := Lib.hid kp
      clear M G C P geo kp G2 C2 r1 hS2 hemp al
      go_wp2_with (first
        | (go_at_call 15; (with_reducible refine (HP4.out _).mono ?_); rintro e w' ⟨rfl, rfl⟩)
        | (go_at_call 26; (with_reducible refine Calls.mono HDEL.out ?_); intro e w4 h4; obtain ⟨rfl, o4, M4, k4⟩ := ActR.ok h4 R1.out; have K4 := Lib.hid (And.intro M4 k4); clear M4 k4 h4)
        | (go_at_call 20; (with_reducible refine Calls.mono (HU.out w4 o4 K4.out.1) ?_); rintro e w6 ⟨rfl, hb6⟩; have HB6 := Lib.hid hb6; clear hb6))
      go_ret
      have hb4 := kp_below (HKP.out.trans K4.out.2) (by intro h; have := h.1; omega)
      exact ⟨rfl, hb4.trans (HB6.out.mono hb4.size)⟩
end Go.Proofs.YtmofiicjaldmiaaGreatDoor.SwS
