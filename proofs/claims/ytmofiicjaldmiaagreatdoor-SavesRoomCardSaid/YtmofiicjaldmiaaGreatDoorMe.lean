/- Texts of Saves: SavesAgain, the walk -/
import Derived.Test.YtmofiicjaldmiaaGreatDoorMd
import Derived.Deep.Slices
import Derived.Deep.Fields
import Derived.ChangeSame
import Derived.Lib.SmallJoins
namespace Go.Proofs.YtmofiicjaldmiaaGreatDoor.SwS
open Go.RowKit Go.Shelf Go.Proofs.YtmofiicjaldmiaaGreatDoorW.PrintWords Go.Proofs.YtmofiicjaldmiaaGreatDoorW.PrintLast Go.Proofs.YtmofiicjaldmiaaGreatDoor.SvA Go.Proofs.YtmofiicjaldmiaaGreatDoor.SvB Go.Proofs.YtmofiicjaldmiaaGreatDoor.SvC Go.Proofs.YtmofiicjaldmiaaGreatDoor.SvD Go.Proofs.YtmofiicjaldmiaaGreatDoor.SvE Go.Proofs.YtmofiicjaldmiaaGreatDoor.SvF Go.Proofs.YtmofiicjaldmiaaGreatDoor.SvG Go.Proofs.YtmofiicjaldmiaaGreatDoor.SvH Go.Proofs.YtmofiicjaldmiaaGreatDoor.SvI Go.Proofs.YtmofiicjaldmiaaGreatDoor.SvJ Go.Proofs.YtmofiicjaldmiaaGreatDoor.SvK Go.Proofs.YtmofiicjaldmiaaGreatDoor.SvL Go.Proofs.YtmofiicjaldmiaaGreatDoor.SvM Go.Proofs.YtmofiicjaldmiaaGreatDoor.SvN Go.Proofs.YtmofiicjaldmiaaGreatDoor.SvO Go.Proofs.YtmofiicjaldmiaaGreatDoor.SvP Go.Proofs.YtmofiicjaldmiaaGreatDoor.SvQ Go.Proofs.YtmofiicjaldmiaaGreatDoor.SvR Go.Proofs.YtmofiicjaldmiaaGreatDoor.SvS Go.Proofs.YtmofiicjaldmiaaGreatDoor.SvT Go.Proofs.YtmofiicjaldmiaaGreatDoor.SvU Go.Proofs.YtmofiicjaldmiaaGreatDoor.SvV Go.Proofs.YtmofiicjaldmiaaGreatDoor.SvW Go.Proofs.YtmofiicjaldmiaaGreatDoor.SvX Go.Proofs.YtmofiicjaldmiaaGreatDoor.SvY Go.Proofs.YtmofiicjaldmiaaGreatDoor.SvZ Go.Proofs.YtmofiicjaldmiaaGreatDoor.SwA Go.Proofs.YtmofiicjaldmiaaGreatDoor.SwB Go.Proofs.YtmofiicjaldmiaaGreatDoor.SwC Go.Proofs.YtmofiicjaldmiaaGreatDoor.SwD Go.Proofs.YtmofiicjaldmiaaGreatDoor.SwE Go.Proofs.YtmofiicjaldmiaaGreatDoor.SwF Go.Proofs.YtmofiicjaldmiaaGreatDoor.SwG Go.Proofs.YtmofiicjaldmiaaGreatDoor.SwI Go.Proofs.YtmofiicjaldmiaaGreatDoor.SwJ Go.Proofs.YtmofiicjaldmiaaGreatDoor.SwK Go.Proofs.YtmofiicjaldmiaaGreatDoor.SwH Go.Proofs.YtmofiicjaldmiaaGreatDoor.SwL Go.Proofs.YtmofiicjaldmiaaGreatDoor.SwM Go.Proofs.YtmofiicjaldmiaaGreatDoor.SwN Go.Proofs.YtmofiicjaldmiaaGreatDoor.SwO Go.Proofs.YtmofiicjaldmiaaGreatDoor.SwP Go.Proofs.YtmofiicjaldmiaaGreatDoor.SwQ Go.Proofs.YtmofiicjaldmiaaGreatDoor.SwR
set_option linter.unusedVariables false
set_option linter.unusedSimpArgs false
open Go.Lib
abbrev again : ByteArray := ⟨#[97, 103, 97, 105, 110]⟩
theorem list_one {w w' : World} {es : List EN} {e : Ending} (h : ListP w es e w') {x : EN} (hx : es = [x]) : ∃ b c, e = .returned (.tuple #[.slice (some ⟨b, 0, none⟩) 1 c, .int .i64 0]) ∧ w'.cell? ⟨b, 0, none⟩ = some (.string x.hd.name) ∧ w'.cell? ⟨b, 1, none⟩ = some (.int .i64 x.hd.ver) ∧ w'.cell? ⟨b, 2, none⟩ = some (.int .i64 x.hd.size) ∧ Below w.heap.size w w' := by
  obtain ⟨z, o, l, rfl, h1, h2, h3, h4, h5⟩ := h
  subst hx
  have hl : l = [infoS x] := List.perm_singleton.1 h4
  subst hl
  have hn : z.n = 1 := (ow_len h1).1.symm
  obtain ⟨gb, hz⟩ := ow_head h1 (by omega)
  obtain ⟨A, n, c⟩ := z
  injection hz with hA _ _
  subst hA
  dsimp only at hn
  subst hn
  obtain ⟨cur, c1, c2, c3, c4, c5, c6⟩ := ow_in h1
  exact ⟨gb, c, rfl, Blk.cell c1 (c6 0 (by omega)), Blk.cell c1 (c6 1 (by omega)), Blk.cell c1 (c6 2 (by omega)), h3⟩
theorem sect_ok (w : World) (own : Nat → Nat) (t gs : Nat) (b : BS) (H : StA w own t gs b) (hz : b.safe.length < 2 ^ 40) : Calls Tryz.prog 22 #[pt gs] w fun e w' => e = .returned (.int .i64 (b.n : Int)) ∧ w = w' := by
  obtain ⟨zs, zp, ps, hg, hbs, hs, hpe, hd⟩ := H
  have hzl : zs.n = b.safe.length := (ow_len hs).1.symm
  have h := sectors_ok w gs zs _ _ _ hbs (by rw [hzl]; exact hz)
  rw [hzl] at h
  exact h
theorem kp_zero {ts : Nat → Prop} {w w' : World} (h : Below w.heap.size w w') : Kp ts w (fun _ => 0) w' (fun _ => 0) := ⟨h.os, h.tape, h.output, h.size, fun k hk _ => ⟨rfl, h.block k hk⟩⟩
/-- behind k puts -/
def AgP (S : SV) (i : Nat) (k n : Nat) : Prop := (k = 0 ∧ (S.ar i).ents = []) ∨ (0 < k ∧ Alone S i again (k : Int) n)
theorem ag_put {S : SV} {N m i k n : Nat} (hg : GS S N m) (hi : i < 8) (h : AgP S i k n) (data : List Int) (hd : data.length = n) (hr : 1 < (S.ar i).heads ∧ many n + many n ≤ (S.ar i).sec - (S.ar i).heads) : (putR S i again data).2 = 0 ∧ Alone (putR S i again data).1 i again ((k + 1 : Nat) : Int) n := by
  subst hd
  rcases h with ⟨rfl, h⟩ | ⟨hk, h⟩
  · exact alone_first hg hi h again data ⟨by omega, by omega⟩
  · exact alone_next hg hi h data hr
theorem ag_del {S : SV} {N m i : Nat} (hg : GS S N m) (hi : i < 8) {v : Int} {n : Nat} (h : Alone S i again v n) : (delR S i again).2 = 0 ∧ ((delR S i again).1.ar i).ents = [] := by
  obtain ⟨e, h1, h2, h3, h4⟩ := h
  unfold delR
  rw [← h2, oldS_one h1]
  refine ⟨rfl, ?_⟩
  show ((delS S i 0 e).ar i).ents = []
  rw [delS_eq, setE_ar, if_pos rfl, h1]
  rfl
/-- how the law stands at the head of a round -/
def AgSt (w : World) (N g gs : Nat) (ga : Nat → Nat) (i n : Nat) (k : Nat) (wr : World) : Prop := ∃ S own' D, SvMem wr own' 100 g gs ga S ∧ GS S N k ∧ CS S D ∧ AgP S i k n ∧ (∀ j, (S.ar j).heads = (N / 8 + 7) / 8 ∧ (S.ar j).sec = N / 8) ∧ Kp (k20 100) w (fun _ => 0) wr own'
set_option maxRecDepth 100000 in
set_option maxHeartbeats 2000000 in
theorem again_walk (a1 a2 a3 a4 : Int) (h1 : i64s a1) (h2 : i64s a2) (h3 : i64s a3) (h4 : i64s a4) (w : World) : Calls Tryz.prog 4 #[.int .i64 a1, .int .i64 a2, .int .i64 a3, .int .i64 a4] w fun e w' => e = .returned (.bool true) ∧ Below w.heap.size w w' := by
  obtain ⟨p, hp⟩ : ∃ p : Nat, pk a1 500 = (p : Int) := ⟨(pk a1 500).toNat, by have := pk_bd a1 500 (by omega); omega⟩
  have hpb : p < 500 := by have := pk_bd a1 500 (by omega); omega
  have HP1 := Lib.hid (fun W => pick_ok a1 500 W h1 (by omega) (by omega))
  rw [hp] at HP1
  clear hp
  have hnew : ∀ W : World, Calls Tryz.prog 16 #[.int .i64 (136 + (p : Int))] W (NewP W (List.replicate (512 * (136 + p)) 0)) := fun W => by
    have := new_ok W (136 + p) (by omega) (by omega)
    rwa [show ((136 + p : Nat) : Int) = 136 + (p : Int) by omega] at this
  have hNb : 136 ≤ 136 + p ∧ 136 + p < 636 := by omega
  generalize hN : 136 + p = N at *
  have HAW := Lib.hid (awake_ok w)
  have HNEW := Lib.hid hnew
  have HN := Lib.hid hN
  clear hnew hN
  have HOP := Lib.hid (fun (W : World) (gs : Nat) (own : Nat → Nat) (H : StA W own 100 gs (BS.fresh (List.replicate (512 * N) 0))) => new_open W N (by omega) (by omega) gs own 100 (by decide) H)
  obtain ⟨g0, c0⟩ := GS.start N (by omega) (fun _ _ => [])
  have hs0e : ∀ i, ((S0 (BS.fresh (List.replicate (512 * N) 0))).ar i).ents = [] := fun _ => rfl
  have hs0h : ∀ i, ((S0 (BS.fresh (List.replicate (512 * N) 0))).ar i).heads = (N / 8 + 7) / 8 ∧ ((S0 (BS.fresh (List.replicate (512 * N) 0))).ar i).sec = N / 8 := fun i => by
    have e := fresh_n N
    constructor
    · show (BS.n _ / 8 + 7) / 8 = _; rw [e]
    · show BS.n _ / 8 = _; rw [e]
  have HSC := Lib.hid (fun (W : World) (own : Nat → Nat) (g gs : Nat) (ga : Nat → Nat) (H : SvMem W own 100 g gs ga (S0 (BS.fresh (List.replicate (512 * N) 0)))) => sect_ok W own 100 gs _ H.st (g0.bok.fit.hz))
  have hbn : (S0 (BS.fresh (List.replicate (512 * N) 0))).b.n = N := g0.bn
  rw [hbn] at HSC
  clear hbn
  generalize S0 (BS.fresh (List.replicate (512 * N) 0)) = s0 at *
  have HINI := Lib.hid (And.intro g0 (And.intro c0 (And.intro hs0e hs0h)))
  clear g0 c0 hs0e hs0h
  obtain ⟨n, hn⟩ : ∃ n : Nat, pk a3 (((N : Int) / 8 - ((N : Int) / 8 + 7) / 8) / 2 * 510 + 1) = (n : Int) := ⟨(pk a3 (((N : Int) / 8 - ((N : Int) / 8 + 7) / 8) / 2 * 510 + 1)).toNat, by have := pk_bd a3 (((N : Int) / 8 - ((N : Int) / 8 + 7) / 8) / 2 * 510 + 1) (by omega); omega⟩
  have hnb : (n : Int) < ((N : Int) / 8 - ((N : Int) / 8 + 7) / 8) / 2 * 510 + 1 := by have := pk_bd a3 (((N : Int) / 8 - ((N : Int) / 8 + 7) / 8) / 2 * 510 + 1) (by omega); omega
  have HP3 := Lib.hid (fun W => pick_ok a3 (((N : Int) / 8 - ((N : Int) / 8 + 7) / 8) / 2 * 510 + 1) W h3 (by omega) (by omega))
  rw [hn] at HP3
  have hn2 : n < 20000 := by omega
  have hmany : 1 < (N / 8 + 7) / 8 ∧ many n + many n ≤ N / 8 - (N / 8 + 7) / 8 := by unfold many; omega
  have HB := Lib.hid hmany
  clear hn hnb hmany
  obtain ⟨ti, hti⟩ : ∃ i : Nat, pk a2 8 = (i : Int) := ⟨(pk a2 8).toNat, by have := pk_bd a2 8 (by omega); omega⟩
  have hti8 : ti < 8 := by have := pk_bd a2 8 (by omega); omega
  have HP2 := Lib.hid (fun W => pick_ok a2 8 W h2 (by omega) (by omega))
  rw [hti] at HP2
  clear hti
  obtain ⟨T, hT⟩ : ∃ i : Nat, pk a4 20 = (i : Int) := ⟨(pk a4 20).toNat, by have := pk_bd a4 20 (by omega); omega⟩
  have hT20 : T < 20 := by have := pk_bd a4 20 (by omega); omega
  have HP4 := Lib.hid (fun W => pick_ok a4 20 W h4 (by omega) (by omega))
  rw [hT] at HP4
  clear hT
  have hda : ∀ W, Calls Tryz.prog 24 #[.agg #[.int .i64 0, .int .i64 0, .int .i64 0, .int .i64 (n : Int)], .int .i64 ((n : Int) + 1)] W (FreshP W n (dataS n n)) := fun W => data_ok0 0 0 0 n ⟨by omega, by omega⟩ ((n : Int) + 1) (by omega) (by omega) n (by unfold pk; rw [if_neg (by omega)]; exact Int.emod_eq_of_lt (by omega) (by omega)) W
  have HDA := Lib.hid hda
  clear hda
  have hdl : (dataS n n).length = n := dataS_len _ _
  have hdu : u8s (dataS n n) := dataS_u8 _ _
  generalize dataS n n = dt at *
  go_enter Tryz.func4, Tryz.ntmps4
  go_upto_region 10 with (first
    | (go_at_call 14; refine HAW.out.mono ?_; rintro e w0 ⟨rfl, hb0⟩; have HB0 := Lib.hid hb0; clear hb0)
    | (go_at_call 15; (with_reducible refine (HP1.out _).mono ?_); rintro e w' ⟨rfl, rfl⟩)
    | (go_at_call 15; (with_reducible refine (HP3.out _).mono ?_); rintro e w' ⟨rfl, rfl⟩)
    | (go_at_call 15; (with_reducible refine (HP2.out _).mono ?_); rintro e w' ⟨rfl, rfl⟩)
    | (go_at_call 16; refine (HNEW.out _).mono ?_; rintro e w1 ⟨gs, rfl, hgs, hb1, hN⟩; obtain ⟨o1, st1, k1⟩ := hN (fun _ => 0) 100; have K1 := Lib.hid k1; have ST1 := Lib.hid st1; clear k1 st1 hN hgs hb1)
    | (go_at_call 17; refine Calls.mono (HOP.out _ gs o1 ST1.out) ?_; rintro e w2 ⟨g, o2, ga, rfl, hg2x, M2, k2⟩; have K2 := Lib.hid (And.intro M2 k2); clear M2 k2 hg2x)
    | (go_at_call 22; refine Calls.mono (HSC.out w2 o2 g gs ga K2.out.1) ?_; rintro e w' ⟨rfl, rfl⟩))
  have hk2 : Kp (k20 100) w (fun _ => 0) w2 o2 := ((kp_zero HB0.out).trans (K1.out.mono (fun _ h => h.elim))).trans K2.out.2
  have HST := Lib.hid (show AgSt w N g gs ga ti n 0 w2 from ⟨s0, o2, _, K2.out.1, HINI.out.1, HINI.out.2.1, .inl ⟨rfl, HINI.out.2.2.1 ti⟩, HINI.out.2.2.2, hk2⟩)
  rw [show (1 : Int) + (ti : Int) = (ti : Int) + 1 from Int.add_comm _ _]
  clear hk2
  go_wp2_with fail
  go_loopw [18, 19, 20, 21, 22, 23] (fun v _ _ _ _ _ wr => ∃ k : Nat, k ≤ T + 1 ∧ v = .int .i64 ((k : Int) + 1) ∧ AgSt w N g gs ga ti n k wr) (fun v _ _ _ _ _ _ => T + 2 - (intOf v).toNat)
  case atStart => exact ⟨0, by omega, rfl, HST.out⟩
  case round =>
    obtain ⟨k, hk, rfl, S, own', D, M, G, C, P, geo, kp⟩ := hrel
    by_cases hlt : k < T + 1
    · have dl : decide ((k : Int) + 1 ≤ 1 + (T : Int)) = true := by simp; omega
      have hr : 1 < (S.ar ti).heads ∧ many n + many n ≤ (S.ar ti).sec - (S.ar ti).heads := by rw [(geo ti).1, (geo ti).2]; exact HB.out
      obtain ⟨r1, al⟩ := ag_put G hti8 P dt hdl hr
      obtain ⟨G2, C2⟩ := putR_all G C ti hti8 again (by decide) dt hdu (by omega) (by omega)
      have geo2 := fun j => putR_geo S ti again dt j
      have hu := (Alone.used G2 hti8 al).1
      have HPUT := Lib.hid (fun (W : World) (h : Below wr.heap.size wr W) (A : Option Addr) (hB : BytesAt W A n dt) (hA : ∀ q, A = some q → wr.heap.size ≤ q.block) => put_at wr own' 100 g gs ga S M (by decide) G (by omega) W h ti hti8 again (by decide) A n n dt hB (Nat.le_refl _) hA hdu (by omega))
      generalize hS2 : putR S ti again dt = S2 at *
      have HL := Lib.hid (fun (W : World) (o : Nat → Nat) (H : SvMem W o 100 g gs ga S2.1) => list_at W o 100 g gs ga S2.1 H G2 W (Below.refl _ _) ti hti8)
      have HU := Lib.hid (fun (W0 : World) (o : Nat → Nat) (H : SvMem W0 o 100 g gs ga S2.1) (W : World) (h : Below W0.heap.size W0 W) => used_at W0 o 100 g gs ga S2.1 H G2 W h ti hti8)
      have hui : ((usedS (S2.1.ar ti).ents : Nat) : Int) = 1 + ((n : Int) + 509) / 510 := by rw [hu]; unfold many; omega
      rw [hui] at HU
      obtain ⟨x, hx1, hx2, hx3, hx4⟩ := al
      have R1 := Lib.hid r1
      have HNX := Lib.hid (fun (W : World) (o : Nat → Nat) (H : SvMem W o 100 g gs ga S2.1) (hk : Kp (k20 100) w (fun _ => 0) W o) => (show AgSt w N g gs ga ti n (k + 1) W from ⟨S2.1, o, _, H, G2, C2, .inr ⟨by omega, x, hx1, hx2, hx3, hx4⟩, fun j => by rw [(geo2 j).1, (geo2 j).2]; exact geo j, hk⟩))
      have HX := Lib.hid hx1
      have HKP := Lib.hid kp
      clear M G C P geo kp G2 C2 geo2 hu hui hr r1 hx1 hS2
      go_wp2_with (first
        | (go_at_call 15; (with_reducible refine (HP4.out _).mono ?_); rintro e w' ⟨rfl, rfl⟩)
        | (go_at_call 24; (with_reducible refine Calls.mono (HDA.out _) ?_); rintro e w3 ⟨A, rfl, f1, f2, f3⟩; have F := Lib.hid (And.intro f1 (And.intro f2 f3)); clear f1 f2 f3)
        | (go_at_call 23; (with_reducible refine Calls.mono (HPUT.out w3 F.out.2.2 A F.out.1 (fun q hq => F.out.2.1 q hq)) ?_); intro e w4 h4; obtain ⟨rfl, o4, M4, k4⟩ := ActR.ok h4 R1.out; have K4 := Lib.hid (And.intro M4 k4); clear M4 k4 h4)
        | (go_at_call 25; (with_reducible refine Calls.mono (HL.out w4 o4 K4.out.1) ?_); intro e w5 h5; obtain ⟨lb, lc, rfl, l0, l1, l2, l3⟩ := list_one h5 HX.out; rw [hx2] at l0; rw [hx3] at l1; rw [hx4] at l2; have L3 := Lib.hid l3; clear h5 l3)
        | (go_at_call 20; (with_reducible refine Calls.mono (HU.out w4 o4 K4.out.1 w5 L3.out) ?_); rintro e w6 ⟨rfl, hb6⟩; have l0' := cellOf hb6 l0; have l1' := cellOf hb6 l1; have l2' := cellOf hb6 l2; have HB6 := Lib.hid hb6; clear l0 l1 l2 hb6))
      case roundEnd =>
        refine ⟨⟨k + 1, by omega, by go_num, HNX.out w6 _ ((K4.out.1).below (L3.out.trans (HB6.out.mono L3.out.size))) ((HKP.out.trans K4.out.2).trans (Kp.below (L3.out.trans (HB6.out.mono L3.out.size)) 0))⟩, by simp [intOf]; omega⟩
    · have dl : decide ((k : Int) + 1 ≤ 1 + (T : Int)) = false := by simp; omega
      have al : Alone S ti again (k : Int) n := by
        rcases P with ⟨h, _⟩ | ⟨_, h⟩
        · omega
        · exact h
      obtain ⟨r1, hemp⟩ := ag_del G hti8 al
      obtain ⟨G2, C2⟩ := delR_all G C ti hti8 again
      have HDEL := Lib.hid (del_at wr own' 100 g gs ga S M (by decide) G wr (Below.refl _ _) ti hti8 again (by decide))
      generalize hS2 : delR S ti again = S2 at *
      have HU := Lib.hid (fun (W0 : World) (o : Nat → Nat) (H : SvMem W0 o 100 g gs ga S2.1) => used_at W0 o 100 g gs ga S2.1 H G2 W0 (Below.refl _ _) ti hti8)
      rw [hemp] at HU
      have R1 := Lib.hid r1
      have HKP := Lib.hid kp
      clear M G C P geo kp G2 C2 r1 hS2 hemp al
      go_wp2_with (first
        | (go_at_call 15; (with_reducible refine (HP4.out _).mono ?_); rintro e w' ⟨rfl, rfl⟩)
        | (go_at_call 26; (with_reducible refine Calls.mono HDEL.out ?_); intro e w4 h4; obtain ⟨rfl, o4, M4, k4⟩ := ActR.ok h4 R1.out; have K4 := Lib.hid (And.intro M4 k4); clear M4 k4 h4)
        | (go_at_call 20; (with_reducible refine Calls.mono (HU.out w4 o4 K4.out.1) ?_); rintro e w6 ⟨rfl, hb6⟩; have HB6 := Lib.hid hb6; clear hb6))
      go_ret
      have hb4 := kp_below (HKP.out.trans K4.out.2) (by intro h; have := h.1; omega)
      exact ⟨rfl, hb4.trans (HB6.out.mono hb4.size)⟩
end Go.Proofs.YtmofiicjaldmiaaGreatDoor.SwS
namespace Go.Proofs.YtmofiicjaldmiaaGreatDoor.SwT
open Go.RowKit Go.Shelf Go.Proofs.YtmofiicjaldmiaaGreatDoorW.PrintWords Go.Proofs.YtmofiicjaldmiaaGreatDoorW.PrintLast Go.Proofs.YtmofiicjaldmiaaGreatDoor.SvA Go.Proofs.YtmofiicjaldmiaaGreatDoor.SvB Go.Proofs.YtmofiicjaldmiaaGreatDoor.SvC Go.Proofs.YtmofiicjaldmiaaGreatDoor.SvD Go.Proofs.YtmofiicjaldmiaaGreatDoor.SvE Go.Proofs.YtmofiicjaldmiaaGreatDoor.SvF Go.Proofs.YtmofiicjaldmiaaGreatDoor.SvG Go.Proofs.YtmofiicjaldmiaaGreatDoor.SvH Go.Proofs.YtmofiicjaldmiaaGreatDoor.SvI Go.Proofs.YtmofiicjaldmiaaGreatDoor.SvJ Go.Proofs.YtmofiicjaldmiaaGreatDoor.SvK Go.Proofs.YtmofiicjaldmiaaGreatDoor.SvL Go.Proofs.YtmofiicjaldmiaaGreatDoor.SvM Go.Proofs.YtmofiicjaldmiaaGreatDoor.SvN Go.Proofs.YtmofiicjaldmiaaGreatDoor.SvO Go.Proofs.YtmofiicjaldmiaaGreatDoor.SvP Go.Proofs.YtmofiicjaldmiaaGreatDoor.SvQ Go.Proofs.YtmofiicjaldmiaaGreatDoor.SvR Go.Proofs.YtmofiicjaldmiaaGreatDoor.SvS Go.Proofs.YtmofiicjaldmiaaGreatDoor.SvT Go.Proofs.YtmofiicjaldmiaaGreatDoor.SvU Go.Proofs.YtmofiicjaldmiaaGreatDoor.SvV Go.Proofs.YtmofiicjaldmiaaGreatDoor.SvW Go.Proofs.YtmofiicjaldmiaaGreatDoor.SvX Go.Proofs.YtmofiicjaldmiaaGreatDoor.SvY Go.Proofs.YtmofiicjaldmiaaGreatDoor.SvZ Go.Proofs.YtmofiicjaldmiaaGreatDoor.SwA Go.Proofs.YtmofiicjaldmiaaGreatDoor.SwB Go.Proofs.YtmofiicjaldmiaaGreatDoor.SwC Go.Proofs.YtmofiicjaldmiaaGreatDoor.SwD Go.Proofs.YtmofiicjaldmiaaGreatDoor.SwE Go.Proofs.YtmofiicjaldmiaaGreatDoor.SwF Go.Proofs.YtmofiicjaldmiaaGreatDoor.SwG Go.Proofs.YtmofiicjaldmiaaGreatDoor.SwI Go.Proofs.YtmofiicjaldmiaaGreatDoor.SwJ Go.Proofs.YtmofiicjaldmiaaGreatDoor.SwK Go.Proofs.YtmofiicjaldmiaaGreatDoor.SwH Go.Proofs.YtmofiicjaldmiaaGreatDoor.SwL Go.Proofs.YtmofiicjaldmiaaGreatDoor.SwM Go.Proofs.YtmofiicjaldmiaaGreatDoor.SwN Go.Proofs.YtmofiicjaldmiaaGreatDoor.SwO Go.Proofs.YtmofiicjaldmiaaGreatDoor.SwP Go.Proofs.YtmofiicjaldmiaaGreatDoor.SwQ Go.Proofs.YtmofiicjaldmiaaGreatDoor.SwR Go.Proofs.YtmofiicjaldmiaaGreatDoor.SwS
set_option linter.unusedVariables false
set_option linter.unusedSimpArgs false
open Go.ChangeShapes Go.WideShapes Go.Deep Go.Lib Go.Joins
section
variable {H : Type} {enc : TypeId × Value → H} {P : Program} {w : World} {base : Nat} {spare : Nat → Bool} {held : Bool}
theorem open_slice_fields {t e : TypeId} {fs : Array Field} {fuel : Nat} {cs : List Value} {x : DataW H × List MemPlace} (ht : P.underlying t = some (.slice e)) (he : P.underlying e = some (.struct fs))
    (hone : oneCellFields P fs = true) (hC : P.cellsOf e = fs.size) (h : DataW.trod enc P w base spare held fuel t cs = some x) :
    (cs = [.slice none 0 0] ∧ x = (.nil, [])) ∨
    ∃ (a : Addr) (len cap m : Nat) (D : Nat → DataW H) (Pl : Nat → List MemPlace), cs = [.slice (some a) len cap] ∧ base ≤ a.block ∧ len ≤ cap ∧ cap ≤ maxLen ∧ m = (if spare a.block then cap else len) ∧
      x = (.slice ((List.range len).map D) ((List.range (m - len)).map fun j => D (len + j)), MemPlace.row a (m * fs.size) ++ (List.range m).flatMap Pl) ∧
      ∀ i, i < m → ∃ (ys : List (DataW H × List MemPlace)) (n : Nat), D i = .agg (ys.map (·.1)) ∧ Pl i = ys.flatMap (·.2) ∧ ys.length = fs.size ∧
        ∀ (j : Nat) (f : Field), fs[j]? = some f → ∃ (v : Value) (y : DataW H × List MemPlace), w.cell? (a.add (i * fs.size + j)) = some v ∧ ys[j]? = some y ∧ DataW.trod enc P w base spare held n f.type [v] = some y := by
  rcases open_slice ht h with h0 | ⟨a, len, cap, m, n, D, Pl, hcs, hb, hl, hm, hmm, hx, hi⟩
  · exact .inl h0
  · refine .inr ⟨a, len, cap, m, D, Pl, hcs, hb, hl, hm, hmm, by rw [hC] at hx; exact hx, fun i him => ?_⟩
    obtain ⟨cs', hc, ht'⟩ := hi i him
    rw [hC] at hc
    obtain ⟨ys, n', hn', hy, hlen, hyl, hf⟩ := DataW.trod_struct he ht'
    obtain ⟨_, hcl, hat⟩ := World.cells?_some hc
    simp only [Prod.mk.injEq] at hy
    refine ⟨ys, n', hy.1, hy.2, hyl, fun j f hj => ?_⟩
    obtain ⟨ho, hk⟩ := hone_of hone j f hj
    have hjl : j < fs.size := (Array.getElem?_eq_some_iff.1 hj).1
    have hcell := hat j hjl
    have hv : cs'[j]? = some (cs'[j]'(by omega)) := List.getElem?_eq_getElem (by omega)
    have h1 := hf j f hj
    rw [ho, hk] at h1
    have hone' : (cs'.drop j).take 1 = [cs'[j]'(by omega)] := by
      rw [List.drop_eq_getElem_cons (by omega)]
      rfl
    rw [hone'] at h1
    have hys : ys[j]? = some (ys[j]'(by omega)) := List.getElem?_eq_getElem (by omega)
    refine ⟨_, _, ?_, hys, h1.trans hys⟩
    rw [← Go.Deep.add_add, hcell, hv]
end
/-- acts in memory -/
def AcAt (w : World) (A : Option Addr) (xs : List AC) : Prop := ∀ (k : Nat) (x : AC), xs[k]? = some x → x.wf ∧ ∃ ad : Addr, A = some ad ∧ w.cell? (ad.add (k * 4)) = some (.int .i64 x.kind) ∧ w.cell? ⟨(ad.add (k * 4)).block, (ad.add (k * 4)).off + 1, none⟩ = some (.int .i64 x.ten) ∧
  w.cell? ⟨(ad.add (k * 4)).block, (ad.add (k * 4)).off + 2, none⟩ = some (.int .i64 x.nm) ∧ w.cell? ⟨(ad.add (k * 4)).block, (ad.add (k * 4)).off + 3, none⟩ = some (.int .i64 x.bytes)
theorem AcAt.below {w w' : World} {A : Option Addr} {xs : List AC} (h : AcAt w A xs) (hb : Below w.heap.size w w') : AcAt w' A xs := fun k x hx => by
  obtain ⟨h0, ad, h1, h2, h3, h4, h5⟩ := h k x hx
  exact ⟨h0, ad, h1, cellOf hb h2, cellOf hb h3, cellOf hb h4, cellOf hb h5⟩
theorem wf_i64 {n : Int} (h : (Lit.int .i64 n).wf = true) : i64s n := by
  simp [Lit.wf, IntKind.min, IntKind.max, IntKind.signed, IntKind.bits] at h
  exact ⟨by omega, by omega⟩
theorem add_field (x : Addr) (s j : Nat) (hj : 0 < j) : x.add (s + j) = ⟨(x.add s).block, (x.add s).off + j, none⟩ := by
  rw [← Go.Deep.add_add]
  generalize x.add s = y
  unfold Addr.add
  rw [if_neg (by omega)]
set_option maxRecDepth 100000 in
theorem open_acts {H : Type} {enc : TypeId × Value → H} {W : World} {v : Value} {d : DataW H} {p : List MemPlace} (hv : Value.okWide Tryz.prog W .any 0 22 v) (h : DataW.Trod enc Tryz.prog W 0 (fun _ => true) true 22 v d p) :
    ∃ (A : Option Addr) (c : Nat) (xs : List AC), v = .slice A xs.length c ∧ AcAt W A xs ∧ xs.length ≤ c ∧ xs.length ≤ 9223372036854775807 := by
  obtain ⟨A, n, c, rfl⟩ := okWide_slice Tryz.underlying22 hv
  obtain ⟨fuel, hf⟩ := h
  rcases open_slice_fields Tryz.underlying22 Tryz.underlying33 (by kernel_rfl) (by kernel_rfl) hf with ⟨hcs, _⟩ | ⟨a, len, cap, m, D, Pl, hcs, _, hl, hm, hmm, hx, hi⟩
  · simp [Value.cells] at hcs
    obtain ⟨rfl, rfl, rfl⟩ := hcs
    exact ⟨none, 0, [], rfl, (fun k x hx => by simp at hx), by simp, by simp⟩
  · simp [Value.cells] at hcs
    obtain ⟨rfl, rfl, rfl⟩ := hcs
    have hcm : c = m := by rw [hmm]; simp
    have hone : ∀ i, ∃ x : AC, i < n → x.wf ∧ W.cell? (a.add (i * 4)) = some (.int .i64 x.kind) ∧ W.cell? ⟨(a.add (i * 4)).block, (a.add (i * 4)).off + 1, none⟩ = some (.int .i64 x.ten) ∧ W.cell? ⟨(a.add (i * 4)).block, (a.add (i * 4)).off + 2, none⟩ = some (.int .i64 x.nm) ∧ W.cell? ⟨(a.add (i * 4)).block, (a.add (i * 4)).off + 3, none⟩ = some (.int .i64 x.bytes) := fun i => by
      by_cases hin : i < n
      · obtain ⟨ys, k, hD, _, hys, hf⟩ := hi i (by omega)
        obtain ⟨v0, y0, c0, _, t0⟩ := hf 0 _ rfl
        obtain ⟨v1, y1, c1, _, t1⟩ := hf 1 _ rfl
        obtain ⟨v2, y2, c2, _, t2⟩ := hf 2 _ rfl
        obtain ⟨v3, y3, c3, _, t3⟩ := hf 3 _ rfl
        obtain ⟨n0, e0, _, w0⟩ := DataW.trod_int (k := .i64) Tryz.underlying3 t0
        obtain ⟨n1, e1, _, w1⟩ := DataW.trod_int (k := .i64) Tryz.underlying3 t1
        obtain ⟨n2, e2, _, w2⟩ := DataW.trod_int (k := .i64) Tryz.underlying3 t2
        obtain ⟨n3, e3, _, w3⟩ := DataW.trod_int (k := .i64) Tryz.underlying3 t3
        simp at e0 e1 e2 e3
        subst e0 e1 e2 e3
        exact ⟨⟨n0, n1, n2, n3⟩, fun _ => ⟨⟨wf_i64 w0, wf_i64 w1, wf_i64 w2, wf_i64 w3⟩, c0, by rw [← add_field _ _ 1 (by omega)]; exact c1, by rw [← add_field _ _ 2 (by omega)]; exact c2, by rw [← add_field _ _ 3 (by omega)]; exact c3⟩⟩
      · exact ⟨⟨0, 0, 0, 0⟩, fun h => absurd h hin⟩
    obtain ⟨g, hg⟩ := Classical.axiomOfChoice hone
    have hlen : ((List.range n).map g).length = n := by simp
    refine ⟨some a, c, (List.range n).map g, by rw [hlen], fun k x hx => ?_, by rw [hlen]; exact hl, by rw [hlen]; unfold maxLen at hm; omega⟩
    have hjn : k < n := by
      have := (List.getElem?_eq_some_iff.1 hx).1
      omega
    rw [List.getElem?_map, List.getElem?_range hjn] at hx
    simp at hx
    subst hx
    obtain ⟨g0, g1, g2, g3, g4⟩ := hg k hjn
    exact ⟨g0, a, rfl, g1, g2, g3, g4⟩
set_option maxRecDepth 100000 in
theorem open_act {H : Type} {enc : TypeId × Value → H} {W : World} {v : Value} {d : DataW H} {p : List MemPlace} (hv : Value.okWide Tryz.prog W .any 0 33 v) (h : DataW.Trod enc Tryz.prog W 0 (fun _ => true) true 33 v d p) :
    ∃ x : AC, v = x.enc ∧ x.wf := by
  obtain ⟨v0, v1, v2, v3, y0, y1, y2, y3, n, rfl, _, _, h0, h1, h2, h3⟩ := open_agg4 Tryz.underlying33 (by kernel_rfl) (by kernel_rfl) hv h
  obtain ⟨n0, e0, _, w0⟩ := DataW.trod_int (k := .i64) Tryz.underlying3 h0
  obtain ⟨n1, e1, _, w1⟩ := DataW.trod_int (k := .i64) Tryz.underlying3 h1
  obtain ⟨n2, e2, _, w2⟩ := DataW.trod_int (k := .i64) Tryz.underlying3 h2
  obtain ⟨n3, e3, _, w3⟩ := DataW.trod_int (k := .i64) Tryz.underlying3 h3
  simp at e0 e1 e2 e3
  subst e0 e1 e2 e3
  exact ⟨⟨n0, n1, n2, n3⟩, rfl, wf_i64 w0, wf_i64 w1, wf_i64 w2, wf_i64 w3⟩
end Go.Proofs.YtmofiicjaldmiaaGreatDoor.SwT
namespace Go.Proofs.YtmofiicjaldmiaaGreatDoor.SwU
open Go.RowKit Go.Shelf Go.Proofs.YtmofiicjaldmiaaGreatDoorW.PrintWords Go.Proofs.YtmofiicjaldmiaaGreatDoorW.PrintLast Go.Proofs.YtmofiicjaldmiaaGreatDoor.SvA Go.Proofs.YtmofiicjaldmiaaGreatDoor.SvB Go.Proofs.YtmofiicjaldmiaaGreatDoor.SvC Go.Proofs.YtmofiicjaldmiaaGreatDoor.SvD Go.Proofs.YtmofiicjaldmiaaGreatDoor.SvE Go.Proofs.YtmofiicjaldmiaaGreatDoor.SvF Go.Proofs.YtmofiicjaldmiaaGreatDoor.SvG Go.Proofs.YtmofiicjaldmiaaGreatDoor.SvH Go.Proofs.YtmofiicjaldmiaaGreatDoor.SvI Go.Proofs.YtmofiicjaldmiaaGreatDoor.SvJ Go.Proofs.YtmofiicjaldmiaaGreatDoor.SvK Go.Proofs.YtmofiicjaldmiaaGreatDoor.SvL Go.Proofs.YtmofiicjaldmiaaGreatDoor.SvM Go.Proofs.YtmofiicjaldmiaaGreatDoor.SvN Go.Proofs.YtmofiicjaldmiaaGreatDoor.SvO Go.Proofs.YtmofiicjaldmiaaGreatDoor.SvP Go.Proofs.YtmofiicjaldmiaaGreatDoor.SvQ Go.Proofs.YtmofiicjaldmiaaGreatDoor.SvR Go.Proofs.YtmofiicjaldmiaaGreatDoor.SvS Go.Proofs.YtmofiicjaldmiaaGreatDoor.SvT Go.Proofs.YtmofiicjaldmiaaGreatDoor.SvU Go.Proofs.YtmofiicjaldmiaaGreatDoor.SvV Go.Proofs.YtmofiicjaldmiaaGreatDoor.SvW Go.Proofs.YtmofiicjaldmiaaGreatDoor.SvX Go.Proofs.YtmofiicjaldmiaaGreatDoor.SvY Go.Proofs.YtmofiicjaldmiaaGreatDoor.SvZ Go.Proofs.YtmofiicjaldmiaaGreatDoor.SwA Go.Proofs.YtmofiicjaldmiaaGreatDoor.SwB Go.Proofs.YtmofiicjaldmiaaGreatDoor.SwC Go.Proofs.YtmofiicjaldmiaaGreatDoor.SwD Go.Proofs.YtmofiicjaldmiaaGreatDoor.SwE Go.Proofs.YtmofiicjaldmiaaGreatDoor.SwF Go.Proofs.YtmofiicjaldmiaaGreatDoor.SwG Go.Proofs.YtmofiicjaldmiaaGreatDoor.SwI Go.Proofs.YtmofiicjaldmiaaGreatDoor.SwJ Go.Proofs.YtmofiicjaldmiaaGreatDoor.SwK Go.Proofs.YtmofiicjaldmiaaGreatDoor.SwH Go.Proofs.YtmofiicjaldmiaaGreatDoor.SwL Go.Proofs.YtmofiicjaldmiaaGreatDoor.SwM Go.Proofs.YtmofiicjaldmiaaGreatDoor.SwN Go.Proofs.YtmofiicjaldmiaaGreatDoor.SwO Go.Proofs.YtmofiicjaldmiaaGreatDoor.SwP Go.Proofs.YtmofiicjaldmiaaGreatDoor.SwQ Go.Proofs.YtmofiicjaldmiaaGreatDoor.SwR Go.Proofs.YtmofiicjaldmiaaGreatDoor.SwS Go.Proofs.YtmofiicjaldmiaaGreatDoor.SwT
set_option linter.unusedVariables false
set_option linter.unusedSimpArgs false
open Go.Lib
theorem does_at (w : World) (own : Nat → Nat) (t g gs : Nat) (ga : Nat → Nat) (S : SV) (H : SvMem w own t g gs ga S) (ht : t ≠ 0) {n m : Nat} (hg : GS S n m) (hm : m + 1 < 4294967296) (W : World) (h : Below w.heap.size w W) (a : AC) (ha : a.wf) (most : Int) (h1 : 1 ≤ most) (h2 : most ≤ 100000) :
    Calls Tryz.prog 18 #[a.enc, pt g, .int .i64 most] W (ActR w own t g gs ga (doS S a most)) := by
  refine (does_ok W (tagged w own 0) t g gs ga S (H.below h) ht n m hg hm a ha most h1 h2).mono ?_
  intro e w' hr
  exact ActR.back hr (Kp.below h 0)
def doD (S : SV) (D : Nat → ByteArray → List Int) (a : AC) (most : Int) : Nat → ByteArray → List Int := if a.puts = true ∧ roomS (S.ar a.t0) (a.data most).length = true then putD D a.t0 a.name (a.data most) else D
theorem doS_all {S : SV} {n m : Nat} {D : Nat → ByteArray → List Int} (h : GS S n m) (hc : CS S D) (a : AC) (most : Int) (h1 : 1 ≤ most) (h2 : most ≤ 100000) (hm : m + 1 < 4294967296) : GS (doS S a most).1 n (m + 1) ∧ CS (doS S a most).1 (doD S D a most) := by
  unfold doS doD
  cases hp : a.puts
  · rw [if_neg (by decide), if_neg (by simp)]
    obtain ⟨x, y⟩ := delR_all h hc a.t0 a.t0_lt.1 a.name
    exact ⟨x.mono (by omega), y⟩
  · rw [if_pos rfl]
    have := putR_all h hc a.t0 a.t0_lt.1 a.name (AC.name_ok a) (a.data most) (dataS_u8 _ _) (by rw [AC.data_len]; have := (a.len_lt most (by omega)).1; omega) hm
    refine ⟨this.1, ?_⟩
    cases hr : roomS (S.ar a.t0) (a.data most).length
    · rw [hr] at this
      rw [if_neg (by simp)]
      exact this.2
    · rw [hr] at this
      rw [if_pos ⟨rfl, rfl⟩]
      exact this.2
theorem doS_put {S : SV} {a : AC} {most : Int} (hp : a.puts = true) : (doS S a most).2 = if roomS (S.ar a.t0) (a.len most) then 0 else 112 := by
  unfold doS putR
  rw [if_pos hp, AC.data_len]
  split <;> rfl
/-- how the law stands at the head of a round -/
def RmSt (w : World) (N g gs : Nat) (ga : Nat → Nat) (k : Nat) (wr : World) : Prop := ∃ S own' D, SvMem wr own' 100 g gs ga S ∧ GS S N k ∧ CS S D ∧ Kp (k20 100) w (fun _ => 0) wr own'
set_option maxRecDepth 100000 in
set_option maxHeartbeats 4000000 in
theorem room_walk (a0 : Int) (A : Option Addr) (c : Nat) (xs : List AC) (x2 : AC) (h0 : i64s a0) (w : World) (hxs : AcAt w A xs) (hc : xs.length ≤ c) (hl : xs.length ≤ 9223372036854775807) (h2 : x2.wf) : Calls Tryz.prog 5 #[.int .i64 a0, .slice A xs.length c, x2.enc] w fun e w' => e = .returned (.bool true) ∧ Below w.heap.size w w' := by
  obtain ⟨p, hp⟩ : ∃ p : Nat, pk a0 300 = (p : Int) := ⟨(pk a0 300).toNat, by have := pk_bd a0 300 (by omega); omega⟩
  have hpb : p < 300 := by have := pk_bd a0 300 (by omega); omega
  have HP1 := Lib.hid (fun W => pick_ok a0 300 W h0 (by omega) (by omega))
  rw [hp] at HP1
  clear hp
  have hnew : ∀ W : World, Calls Tryz.prog 16 #[.int .i64 (16 + (p : Int))] W (NewP W (List.replicate (512 * (16 + p)) 0)) := fun W => by
    have := new_ok W (16 + p) (by omega) (by omega)
    rwa [show ((16 + p : Nat) : Int) = 16 + (p : Int) by omega] at this
  have hNb : 16 ≤ 16 + p ∧ 16 + p < 316 := by omega
  generalize hN : 16 + p = N at *
  have HAW := Lib.hid (fun W => awake_ok W)
  have HNEW := Lib.hid hnew
  have HN := Lib.hid hN
  clear hnew hN
  have HOP := Lib.hid (fun (W : World) (gs : Nat) (own : Nat → Nat) (H : StA W own 100 gs (BS.fresh (List.replicate (512 * N) 0))) => new_open W N (by omega) (by omega) gs own 100 (by decide) H)
  obtain ⟨g0, c0⟩ := GS.start N (by omega) (fun _ _ => [])
  have hs0e : ∀ i, ((S0 (BS.fresh (List.replicate (512 * N) 0))).ar i).ents = [] := fun _ => rfl
  have HSC := Lib.hid (fun (W : World) (own : Nat → Nat) (g gs : Nat) (ga : Nat → Nat) (H : SvMem W own 100 g gs ga (S0 (BS.fresh (List.replicate (512 * N) 0)))) => sect_ok W own 100 gs _ H.st (g0.bok.fit.hz))
  have hbn : (S0 (BS.fresh (List.replicate (512 * N) 0))).b.n = N := g0.bn
  rw [hbn] at HSC
  clear hbn
  generalize S0 (BS.fresh (List.replicate (512 * N) 0)) = s0 at *
  have HINI := Lib.hid (And.intro g0 (And.intro c0 hs0e))
  clear g0 c0 hs0e
  obtain ⟨kx, tx, nx, bx⟩ := x2
  have HW2 := Lib.hid h2
  have HXS := Lib.hid hxs
  clear h2 hxs
  dsimp only [AC.enc]
  have hBX : ∀ W, Below (w.alloc (.cells #[.int .i64 kx, .int .i64 tx, .int .i64 nx, .int .i64 bx] 33)).heap.size (w.alloc (.cells #[.int .i64 kx, .int .i64 tx, .int .i64 nx, .int .i64 bx] 33)) W → W.cell? ⟨w.heap.size, 0, none⟩ = some (.int .i64 kx) ∧ W.cell? ⟨w.heap.size, 1, none⟩ = some (.int .i64 tx) ∧ W.cell? ⟨w.heap.size, 2, none⟩ = some (.int .i64 nx) ∧ W.cell? ⟨w.heap.size, 3, none⟩ = some (.int .i64 bx) := fun W h => ⟨cellOf h (Blk.cell (i := 0) (blkNew rfl) rfl), cellOf h (Blk.cell (i := 1) (blkNew rfl) rfl), cellOf h (Blk.cell (i := 2) (blkNew rfl) rfl), cellOf h (Blk.cell (i := 3) (blkNew rfl) rfl)⟩
  have hB1 := ba (w := w) (.cells #[.int .i64 kx, .int .i64 tx, .int .i64 nx, .int .i64 bx] 33)
  go_enter Tryz.func5, Tryz.ntmps5
  go_upto_region 1 with (fail)
  generalize w.alloc (.cells #[.int .i64 kx, .int .i64 tx, .int .i64 nx, .int .i64 bx] 33) = v1 at *
  have HBX := Lib.hid hBX
  have HB1 := Lib.hid hB1
  clear hBX hB1
  go_upto_region 8 with (first
    | (go_at_call 14; (with_reducible refine (HAW.out _).mono ?_); rintro e w0 ⟨rfl, hb0⟩; have HB0 := Lib.hid hb0; clear hb0)
    | (go_at_call 15; (with_reducible refine (HP1.out _).mono ?_); rintro e w' ⟨rfl, rfl⟩)
    | (go_at_call 16; refine (HNEW.out _).mono ?_; rintro e w1 ⟨gs, rfl, hgs, hb1, hN⟩; obtain ⟨o1, st1, k1⟩ := hN (fun _ => 0) 100; have K1 := Lib.hid k1; have ST1 := Lib.hid st1; clear k1 st1 hN hgs hb1)
    | (go_at_call 17; refine Calls.mono (HOP.out _ gs o1 ST1.out) ?_; rintro e w2 ⟨g, o2, ga, rfl, hg2x, M2, k2⟩; have K2 := Lib.hid (And.intro M2 k2); clear M2 k2 hg2x)
    | (go_at_call 22; refine Calls.mono (HSC.out w2 o2 g gs ga K2.out.1) ?_; rintro e w' ⟨rfl, rfl⟩))
  have hk2 : Kp (k20 100) v1 (fun _ => 0) w2 o2 := ((kp_zero HB0.out).trans (K1.out.mono (fun _ h => h.elim))).trans K2.out.2
  have HST := Lib.hid (show RmSt v1 N g gs ga 0 w2 from ⟨s0, o2, _, K2.out.1, HINI.out.1, HINI.out.2.1, hk2⟩)
  clear hk2
  go_wp2_with fail
  go_loopw [14, 15, 16, 17, 18, 19, 20, 21, 22] (fun v _ _ _ _ _ _ _ _ wr => ∃ k : Nat, k ≤ 60 ∧ k ≤ xs.length + 1 ∧ v = .int .i64 (k : Int) ∧ RmSt v1 N g gs ga k wr) (fun v _ _ _ _ _ _ _ _ _ => 60 - (intOf v).toNat)
  case atStart => exact ⟨0, by omega, by omega, rfl, HST.out⟩
  case round =>
    obtain ⟨k, hk60, hk, rfl, S, own', D, M, G, C, kp⟩ := hrel
    have hb := kp_below kp (by intro h; have := h.1; omega)
    by_cases hc1 : k ≤ xs.length
    · have dl1 : decide ((k : Int) ≤ (xs.length : Int)) = true := by simp; omega
      by_cases hc2 : k < 60
      · have dl2 : decide ((k : Int) < 60) = true := by simp; omega
        obtain ⟨b0, b1, b2, b3⟩ := HBX.out wr hb
        by_cases hlt : k < xs.length
        · have dl3 : decide ((k : Int) < (xs.length : Int)) = true := by simp; omega
          have hlt' : (k : Int) < (xs.length : Int) := by omega
          obtain ⟨x, hx⟩ : ∃ x, xs[k]? = some x := ⟨_, List.getElem?_eq_getElem hlt⟩
          obtain ⟨hw, ad, hA, c0, c1, c2, c3⟩ := ((HXS.out.below HB1.out).below hb) k x hx
          subst hA
          have d0 := fun o => cellOf (ba (w := wr) o) c0
          have d1 := fun o => cellOf (ba (w := wr) o) c1
          have d2 := fun o => cellOf (ba (w := wr) o) c2
          have d3 := fun o => cellOf (ba (w := wr) o) c3
          clear hx c0 c1 c2 c3
          have hti := x.t0_lt.1
          have hln := (x.len_lt 6000 (by omega)).1
          have hG := G.ar x.t0 hti
          have hroom := hG.room (x.len 6000)
          have hus := usedS_eq (S.ar x.t0).ents
          have hle := hG.len_le
          have hse := hG.secs_le
          rw [hG.hds, hG.sec] at hroom
          rw [hG.hds] at hle
          rw [hG.hds, hG.sec] at hse
          have hmany : ((many (x.len 6000) : Nat) : Int) = ((x.len 6000 : Nat) + 509) / 510 := by unfold many; omega
          obtain ⟨G2, C2⟩ := doS_all G C x 6000 (by omega) (by omega) (by omega)
          have HT := Lib.hid (fun W => tenant_ok x hw W)
          have HPU := Lib.hid (fun W => puts_ok x W)
          have HD := Lib.hid (fun W => data_ok x hw 6000 (by omega) (by omega) W)
          have hdp : x.puts = true → (doS S x 6000).2 = if roomS (S.ar x.t0) (x.len 6000) then 0 else 112 := doS_put
          have hxe : x.enc = .agg #[.int .i64 x.kind, .int .i64 x.ten, .int .i64 x.nm, .int .i64 x.bytes] := rfl
          rw [hxe] at HT HPU HD
          have hdo0 : ∀ (W0 : World) (o : Nat → Nat) (H : SvMem W0 o 100 g gs ga S) (W : World) (h : Below W0.heap.size W0 W), Calls Tryz.prog 18 #[.agg #[.int .i64 x.kind, .int .i64 x.ten, .int .i64 x.nm, .int .i64 x.bytes], pt g, .int .i64 6000] W (ActR W0 o 100 g gs ga (doS S x 6000)) := fun W0 o H W h => does_at W0 o 100 g gs ga S H (by decide) G (by omega) W h x hw 6000 (by omega) (by omega)
          have hl0 : ∀ (W0 : World) (o : Nat → Nat) (H : SvMem W0 o 100 g gs ga S) (W : World) (h : Below W0.heap.size W0 W), Calls Tryz.prog 25 #[pt g, .int .i64 ((x.t0 : Int) + 1)] W (ListP W (S.ar x.t0).ents) := fun W0 o H W h => list_at W0 o 100 g gs ga S H G W h x.t0 hti
          have hu0 : ∀ (W0 : World) (o : Nat → Nat) (H : SvMem W0 o 100 g gs ga S) (W : World) (h : Below W0.heap.size W0 W), Calls Tryz.prog 20 #[pt g, .int .i64 ((x.t0 : Int) + 1)] W fun e w' => e = .returned (.tuple #[.int .i64 (usedS (S.ar x.t0).ents : Int), .int .i64 0]) ∧ Below W.heap.size W w' := fun W0 o H W h => used_at W0 o 100 g gs ga S H G W h x.t0 hti
          generalize doS S x 6000 = S2 at *
          generalize roomS (S.ar x.t0) (x.len 6000) = rm at *
          generalize hee : (S.ar x.t0).ents = es at *
          generalize usedS es = us at *
          generalize (secsOf es).length = sl at *
          generalize x.data 6000 = dt at *
          generalize x.t0 = ti at *
          generalize many (x.len 6000) = mn at *
          generalize x.len 6000 = ln at *
          generalize hel : es.length = le at *
          have HEL := Lib.hid hel
          generalize x.puts = pb at *
          have HNX := Lib.hid (fun (W : World) (o : Nat → Nat) (H : SvMem W o 100 g gs ga S2.1) (hk : Kp (k20 100) v1 (fun _ => 0) W o) => (show RmSt v1 N g gs ga (k + 1) W from ⟨S2.1, o, _, H, G2, C2, hk⟩))
          have HKP := Lib.hid kp
          have hle0 : (le : Int) ≤ us := by omega
          have husb : us < 1000 := by omega
          have husi : (us : Int) - le = sl := by omega
          have HR := Lib.hid hroom
          have HHU := Lib.hid husi
          have HMN := Lib.hid hmany
          have HDP := Lib.hid hdp
          clear hG hroom hus hel husi hmany hdp hee
          go_upto_region 14 with (fail)
          have hM2 := M.below (ba (.cells #[.int .i64 x.kind, .int .i64 x.ten, .int .i64 x.nm, .int .i64 x.bytes] 33))
          have hkp2 : Kp (k20 100) v1 (fun _ => 0) (wr.alloc (.cells #[.int .i64 x.kind, .int .i64 x.ten, .int .i64 x.nm, .int .i64 x.bytes] 33)) (tagged wr own' 0) := kp.trans (Kp.below (ba _) 0)
          have hbk : Blk (wr.alloc (.cells #[.int .i64 x.kind, .int .i64 x.ten, .int .i64 x.nm, .int .i64 x.bytes] 33)) wr.heap.size #[.int .i64 x.kind, .int .i64 x.ten, .int .i64 x.nm, .int .i64 x.bytes] 33 := blkNew rfl
          have hoq : tagged wr own' 0 wr.heap.size = 0 := tagged_new (Nat.le_refl _)
          generalize hv2 : wr.alloc (.cells #[.int .i64 x.kind, .int .i64 x.ten, .int .i64 x.nm, .int .i64 x.bytes] 33) = v2 at *
          generalize tagged wr own' 0 = own2 at *
          generalize wr.heap.size = q at *
          have HL := Lib.hid (hl0 v2 own2 hM2)
          have HU := Lib.hid (hu0 v2 own2 hM2)
          have HDO := Lib.hid (hdo0 v2 own2 hM2)
          have HKP2 := Lib.hid hkp2
          have HBK := Lib.hid hbk
          have HOQ := Lib.hid hoq
          have HF := Lib.hid (show ∀ W, Blk W q #[.int .i64 x.kind, .int .i64 x.ten, .int .i64 x.nm, .int .i64 x.bytes] 33 → W.cell? ⟨q, 0, none⟩ = some (.int .i64 x.kind) ∧ W.cell? ⟨q, 1, none⟩ = some (.int .i64 x.ten) ∧ W.cell? ⟨q, 2, none⟩ = some (.int .i64 x.nm) ∧ W.cell? ⟨q, 3, none⟩ = some (.int .i64 x.bytes) from fun W h => ⟨Blk.cell h rfl, Blk.cell h rfl, Blk.cell h rfl, Blk.cell h rfl⟩)
          obtain ⟨y0, y1, y2, y3⟩ := HF.out v2 hbk
          obtain ⟨r, hr⟩ : ∃ r, S2.2 = r := ⟨_, rfl⟩
          have hroom := HR.out
          have hmn := HMN.out
          have hdp := HDP.out
          have hus := HHU.out
          rw [hr] at hdp
          have HRR := Lib.hid hr
          clear M G C kp G2 C2 hxe hw hl0 hu0 hdo0 hM2 hkp2 hbk hoq hv2 hr b0 b1 b2 b3 hb d0 d1 d2 d3
          obtain ⟨b1, hd1⟩ : ∃ b : Bool, decide ((le : Int) < ((N : Int) / 8 + 7) / 8) = b := ⟨_, rfl⟩
          obtain ⟨b2, hd2⟩ : ∃ b : Bool, decide ((us : Int) - (le : Int) + ((ln : Int) + 509) / 510 ≤ (N : Int) / 8 - ((N : Int) / 8 + 7) / 8) = b := ⟨_, rfl⟩
          have hrm : rm = (b1 && b2) := by
            rw [Bool.eq_iff_iff, hroom, Bool.and_eq_true, ← hd1, ← hd2, decide_eq_true_eq, decide_eq_true_eq]
            constructor
            · rintro ⟨p, q⟩
              exact ⟨by omega, by omega⟩
            · rintro ⟨p, q⟩
              exact ⟨by omega, by omega⟩
          subst hrm
          clear hroom hmn hus HR HMN HHU HDP
          have hln0 : (0 : Int) ≤ (ln : Int) := by omega
          have tok1 : True := trivial
          have tok2 : True := trivial
          cases pb <;> cases b1 <;> cases b2 <;> (try have hr0 := hdp rfl) <;> (try simp only [Bool.and_true, Bool.and_false, Bool.true_and, Bool.false_and, if_true, if_false, Bool.false_eq_true] at hr0) <;> (try subst hr0) <;> clear hdp
          all_goals
            go_wp2_with (first
              | (go_at_call 19; have _t := tok1; (with_reducible refine (HT.out _).mono ?_); clear tok1; rintro e w3 ⟨rfl, hb3⟩; have HB3 := Lib.hid hb3; clear hb3)
              | (go_at_call 25; (with_reducible refine Calls.mono (HL.out w3 HB3.out) ?_); rintro e w5 ⟨⟨zA, zn, zc⟩, zo, l, rfl, z1, z2, z3, z4, z5⟩; have HB5 := Lib.hid (HB3.out.trans (z3.mono HB3.out.size)); obtain rfl : zn = le := ((ow_len z1).1.symm.trans z4.length_eq).trans ((List.length_map _).trans HEL.out); obtain ⟨y0, y1, y2, y3⟩ := HF.out w5 (HBK.out.below HB5.out); clear z1 z2 z3 z4 z5; unfold Sl.enc; dsimp only)
              | (go_at_call 19; (with_reducible refine (HT.out _).mono ?_); rintro e w6 ⟨rfl, hb6⟩; have HB6 := Lib.hid (HB5.out.trans (hb6.mono HB5.out.size)); clear hb6)
              | (go_at_call 20; (with_reducible refine Calls.mono (HU.out w6 HB6.out) ?_); rintro e w7 ⟨rfl, hb7⟩; have HB7 := Lib.hid (HB6.out.trans (hb7.mono HB6.out.size)); clear hb7; obtain ⟨y0, y1, y2, y3⟩ := HF.out w7 (HBK.out.below HB7.out))
              | (go_at_call 24; (with_reducible refine Calls.mono (HD.out _) ?_); rintro e w8 ⟨A8, rfl, f1, f2, hb8⟩; have HB8 := Lib.hid (HB7.out.trans (hb8.mono HB7.out.size)); clear f1 f2 hb8; obtain ⟨y0, y1, y2, y3⟩ := HF.out w8 (HBK.out.below HB8.out))
              | (go_at_call 18; (with_reducible refine Calls.mono (HDO.out w8 HB8.out) ?_); intro e w9 h9; obtain ⟨rfl, o9, M9, k9⟩ := ActR.ok h9 HRR.out; have hb9 := (HBK.out.keep k9 (by rw [HOQ.out]; intro h; have := h.1; omega)).1; obtain ⟨y0, y1, y2, y3⟩ := HF.out w9 hb9; have HB9 := Lib.hid hb9; have K9 := Lib.hid (And.intro M9 k9); clear h9 M9 k9 hb9)
              | (go_at_call 27; have _t := tok2; (with_reducible refine (HPU.out _).mono ?_); clear tok2; rintro e w10 ⟨rfl, hb10⟩; obtain ⟨y0, y1, y2, y3⟩ := HF.out w10 (HB9.out.below hb10); have HB10 := Lib.hid hb10; clear hb10)
              | (go_at_call 27; (with_reducible refine (HPU.out _).mono ?_); rintro e w11 ⟨rfl, hb11⟩; have HB11 := Lib.hid (HB10.out.trans (hb11.mono HB10.out.size)); clear hb11))
          all_goals first
            | exact ⟨⟨k + 1, by omega, by omega, by go_num, HNX.out w11 _ (K9.out.1.below HB11.out) ((HKP2.out.trans K9.out.2).trans (Kp.below HB11.out 0))⟩, by simp [intOf]; omega⟩
            | exact ⟨⟨k + 1, by omega, by omega, by go_num, HNX.out w10 _ (K9.out.1.below HB10.out) ((HKP2.out.trans K9.out.2).trans (Kp.below HB10.out 0))⟩, by simp [intOf]; omega⟩
        · have dl3 : decide ((k : Int) < (xs.length : Int)) = false := by simp; omega
          obtain ⟨x, hx⟩ : ∃ x : AC, x = ⟨kx, tx, nx, bx⟩ := ⟨_, rfl⟩
          have hw : x.wf := by rw [hx]; exact HW2.out
          obtain ⟨rfl, rfl, rfl, rfl⟩ : x.kind = kx ∧ x.ten = tx ∧ x.nm = nx ∧ x.bytes = bx := by rw [hx]; exact ⟨rfl, rfl, rfl, rfl⟩
          clear hx
          have hti := x.t0_lt.1
          have hln := (x.len_lt 6000 (by omega)).1
          have hG := G.ar x.t0 hti
          have hroom := hG.room (x.len 6000)
          have hus := usedS_eq (S.ar x.t0).ents
          have hle := hG.len_le
          have hse := hG.secs_le
          rw [hG.hds, hG.sec] at hroom
          rw [hG.hds] at hle
          rw [hG.hds, hG.sec] at hse
          have hmany : ((many (x.len 6000) : Nat) : Int) = ((x.len 6000 : Nat) + 509) / 510 := by unfold many; omega
          obtain ⟨G2, C2⟩ := doS_all G C x 6000 (by omega) (by omega) (by omega)
          have HT := Lib.hid (fun W => tenant_ok x hw W)
          have HPU := Lib.hid (fun W => puts_ok x W)
          have HD := Lib.hid (fun W => data_ok x hw 6000 (by omega) (by omega) W)
          have hdp : x.puts = true → (doS S x 6000).2 = if roomS (S.ar x.t0) (x.len 6000) then 0 else 112 := doS_put
          have hxe : x.enc = .agg #[.int .i64 x.kind, .int .i64 x.ten, .int .i64 x.nm, .int .i64 x.bytes] := rfl
          rw [hxe] at HT HPU HD
          have hdo0 : ∀ (W0 : World) (o : Nat → Nat) (H : SvMem W0 o 100 g gs ga S) (W : World) (h : Below W0.heap.size W0 W), Calls Tryz.prog 18 #[.agg #[.int .i64 x.kind, .int .i64 x.ten, .int .i64 x.nm, .int .i64 x.bytes], pt g, .int .i64 6000] W (ActR W0 o 100 g gs ga (doS S x 6000)) := fun W0 o H W h => does_at W0 o 100 g gs ga S H (by decide) G (by omega) W h x hw 6000 (by omega) (by omega)
          have hl0 : ∀ (W0 : World) (o : Nat → Nat) (H : SvMem W0 o 100 g gs ga S) (W : World) (h : Below W0.heap.size W0 W), Calls Tryz.prog 25 #[pt g, .int .i64 ((x.t0 : Int) + 1)] W (ListP W (S.ar x.t0).ents) := fun W0 o H W h => list_at W0 o 100 g gs ga S H G W h x.t0 hti
          have hu0 : ∀ (W0 : World) (o : Nat → Nat) (H : SvMem W0 o 100 g gs ga S) (W : World) (h : Below W0.heap.size W0 W), Calls Tryz.prog 20 #[pt g, .int .i64 ((x.t0 : Int) + 1)] W fun e w' => e = .returned (.tuple #[.int .i64 (usedS (S.ar x.t0).ents : Int), .int .i64 0]) ∧ Below W.heap.size W w' := fun W0 o H W h => used_at W0 o 100 g gs ga S H G W h x.t0 hti
          generalize doS S x 6000 = S2 at *
          generalize roomS (S.ar x.t0) (x.len 6000) = rm at *
          generalize hee : (S.ar x.t0).ents = es at *
          generalize usedS es = us at *
          generalize (secsOf es).length = sl at *
          generalize x.data 6000 = dt at *
          generalize x.t0 = ti at *
          generalize many (x.len 6000) = mn at *
          generalize x.len 6000 = ln at *
          generalize hel : es.length = le at *
          have HEL := Lib.hid hel
          generalize x.puts = pb at *
          have HNX := Lib.hid (fun (W : World) (o : Nat → Nat) (H : SvMem W o 100 g gs ga S2.1) (hk : Kp (k20 100) v1 (fun _ => 0) W o) => (show RmSt v1 N g gs ga (k + 1) W from ⟨S2.1, o, _, H, G2, C2, hk⟩))
          have HKP := Lib.hid kp
          have hle0 : (le : Int) ≤ us := by omega
          have husb : us < 1000 := by omega
          have husi : (us : Int) - le = sl := by omega
          have HR := Lib.hid hroom
          have HHU := Lib.hid husi
          have HMN := Lib.hid hmany
          have HDP := Lib.hid hdp
          clear hG hroom hus hel husi hmany hdp hee
          go_upto_region 14 with (fail)
          have hM2 := M.below (ba (.cells #[.int .i64 x.kind, .int .i64 x.ten, .int .i64 x.nm, .int .i64 x.bytes] 33))
          have hkp2 : Kp (k20 100) v1 (fun _ => 0) (wr.alloc (.cells #[.int .i64 x.kind, .int .i64 x.ten, .int .i64 x.nm, .int .i64 x.bytes] 33)) (tagged wr own' 0) := kp.trans (Kp.below (ba _) 0)
          have hbk : Blk (wr.alloc (.cells #[.int .i64 x.kind, .int .i64 x.ten, .int .i64 x.nm, .int .i64 x.bytes] 33)) wr.heap.size #[.int .i64 x.kind, .int .i64 x.ten, .int .i64 x.nm, .int .i64 x.bytes] 33 := blkNew rfl
          have hoq : tagged wr own' 0 wr.heap.size = 0 := tagged_new (Nat.le_refl _)
          generalize hv2 : wr.alloc (.cells #[.int .i64 x.kind, .int .i64 x.ten, .int .i64 x.nm, .int .i64 x.bytes] 33) = v2 at *
          generalize tagged wr own' 0 = own2 at *
          generalize wr.heap.size = q at *
          have HL := Lib.hid (hl0 v2 own2 hM2)
          have HU := Lib.hid (hu0 v2 own2 hM2)
          have HDO := Lib.hid (hdo0 v2 own2 hM2)
          have HKP2 := Lib.hid hkp2
          have HBK := Lib.hid hbk
          have HOQ := Lib.hid hoq
          have HF := Lib.hid (show ∀ W, Blk W q #[.int .i64 x.kind, .int .i64 x.ten, .int .i64 x.nm, .int .i64 x.bytes] 33 → W.cell? ⟨q, 0, none⟩ = some (.int .i64 x.kind) ∧ W.cell? ⟨q, 1, none⟩ = some (.int .i64 x.ten) ∧ W.cell? ⟨q, 2, none⟩ = some (.int .i64 x.nm) ∧ W.cell? ⟨q, 3, none⟩ = some (.int .i64 x.bytes) from fun W h => ⟨Blk.cell h rfl, Blk.cell h rfl, Blk.cell h rfl, Blk.cell h rfl⟩)
          obtain ⟨y0, y1, y2, y3⟩ := HF.out v2 hbk
          obtain ⟨r, hr⟩ : ∃ r, S2.2 = r := ⟨_, rfl⟩
          have hroom := HR.out
          have hmn := HMN.out
          have hdp := HDP.out
          have hus := HHU.out
          rw [hr] at hdp
          have HRR := Lib.hid hr
          clear M G C kp G2 C2 hxe hw hl0 hu0 hdo0 hM2 hkp2 hbk hoq hv2 hr b0 b1 b2 b3 hb 
          obtain ⟨b1, hd1⟩ : ∃ b : Bool, decide ((le : Int) < ((N : Int) / 8 + 7) / 8) = b := ⟨_, rfl⟩
          obtain ⟨b2, hd2⟩ : ∃ b : Bool, decide ((us : Int) - (le : Int) + ((ln : Int) + 509) / 510 ≤ (N : Int) / 8 - ((N : Int) / 8 + 7) / 8) = b := ⟨_, rfl⟩
          have hrm : rm = (b1 && b2) := by
            rw [Bool.eq_iff_iff, hroom, Bool.and_eq_true, ← hd1, ← hd2, decide_eq_true_eq, decide_eq_true_eq]
            constructor
            · rintro ⟨p, q⟩
              exact ⟨by omega, by omega⟩
            · rintro ⟨p, q⟩
              exact ⟨by omega, by omega⟩
          subst hrm
          clear hroom hmn hus HR HMN HHU HDP
          have hln0 : (0 : Int) ≤ (ln : Int) := by omega
          have tok1 : True := trivial
          have tok2 : True := trivial
          cases pb <;> cases b1 <;> cases b2 <;> (try have hr0 := hdp rfl) <;> (try simp only [Bool.and_true, Bool.and_false, Bool.true_and, Bool.false_and, if_true, if_false, Bool.false_eq_true] at hr0) <;> (try subst hr0) <;> clear hdp
          all_goals
            go_wp2_with (first
              | (go_at_call 19; have _t := tok1; (with_reducible refine (HT.out _).mono ?_); clear tok1; rintro e w3 ⟨rfl, hb3⟩; have HB3 := Lib.hid hb3; clear hb3)
              | (go_at_call 25; (with_reducible refine Calls.mono (HL.out w3 HB3.out) ?_); rintro e w5 ⟨⟨zA, zn, zc⟩, zo, l, rfl, z1, z2, z3, z4, z5⟩; have HB5 := Lib.hid (HB3.out.trans (z3.mono HB3.out.size)); obtain rfl : zn = le := ((ow_len z1).1.symm.trans z4.length_eq).trans ((List.length_map _).trans HEL.out); obtain ⟨y0, y1, y2, y3⟩ := HF.out w5 (HBK.out.below HB5.out); clear z1 z2 z3 z4 z5; unfold Sl.enc; dsimp only)
              | (go_at_call 19; (with_reducible refine (HT.out _).mono ?_); rintro e w6 ⟨rfl, hb6⟩; have HB6 := Lib.hid (HB5.out.trans (hb6.mono HB5.out.size)); clear hb6)
              | (go_at_call 20; (with_reducible refine Calls.mono (HU.out w6 HB6.out) ?_); rintro e w7 ⟨rfl, hb7⟩; have HB7 := Lib.hid (HB6.out.trans (hb7.mono HB6.out.size)); clear hb7; obtain ⟨y0, y1, y2, y3⟩ := HF.out w7 (HBK.out.below HB7.out))
              | (go_at_call 24; (with_reducible refine Calls.mono (HD.out _) ?_); rintro e w8 ⟨A8, rfl, f1, f2, hb8⟩; have HB8 := Lib.hid (HB7.out.trans (hb8.mono HB7.out.size)); clear f1 f2 hb8; obtain ⟨y0, y1, y2, y3⟩ := HF.out w8 (HBK.out.below HB8.out))
              | (go_at_call 18; (with_reducible refine Calls.mono (HDO.out w8 HB8.out) ?_); intro e w9 h9; obtain ⟨rfl, o9, M9, k9⟩ := ActR.ok h9 HRR.out; have hb9 := (HBK.out.keep k9 (by rw [HOQ.out]; intro h; have := h.1; omega)).1; obtain ⟨y0, y1, y2, y3⟩ := HF.out w9 hb9; have HB9 := Lib.hid hb9; have K9 := Lib.hid (And.intro M9 k9); clear h9 M9 k9 hb9)
              | (go_at_call 27; have _t := tok2; (with_reducible refine (HPU.out _).mono ?_); clear tok2; rintro e w10 ⟨rfl, hb10⟩; obtain ⟨y0, y1, y2, y3⟩ := HF.out w10 (HB9.out.below hb10); have HB10 := Lib.hid hb10; clear hb10)
              | (go_at_call 27; (with_reducible refine (HPU.out _).mono ?_); rintro e w11 ⟨rfl, hb11⟩; have HB11 := Lib.hid (HB10.out.trans (hb11.mono HB10.out.size)); clear hb11))
          all_goals first
            | exact ⟨⟨k + 1, by omega, by omega, by go_num, HNX.out w11 _ (K9.out.1.below HB11.out) ((HKP2.out.trans K9.out.2).trans (Kp.below HB11.out 0))⟩, by simp [intOf]; omega⟩
            | exact ⟨⟨k + 1, by omega, by omega, by go_num, HNX.out w10 _ (K9.out.1.below HB10.out) ((HKP2.out.trans K9.out.2).trans (Kp.below HB10.out 0))⟩, by simp [intOf]; omega⟩
      · have dl2 : decide ((k : Int) < 60) = false := by simp; omega
        have HE := Lib.hid ((HB1.out).trans (hb.mono HB1.out.size))
        clear M G C kp hb
        go_wp2_with fail
        go_ret
        exact ⟨rfl, HE.out⟩
    · have dl1 : decide ((k : Int) ≤ (xs.length : Int)) = false := by simp; omega
      have HE := Lib.hid ((HB1.out).trans (hb.mono HB1.out.size))
      clear M G C kp hb
      go_wp2_with fail
      go_ret
      exact ⟨rfl, HE.out⟩
end Go.Proofs.YtmofiicjaldmiaaGreatDoor.SwU
