import Derived.Deep.LoopGhost
import Derived.BigFrameIn
import Derived.Maps.AppendAt
import Derived.Test.YtmofiicjaldmiaaGreatDoorGAb
section
namespace Go.Proofs.YtmofiicjaldmiaaGreatDoor.SvR
open Go.RowKit Go.Shelf YtmofiicjaldmiaaGreatDoorW.PrintWords YtmofiicjaldmiaaGreatDoorW.PrintLast SvA SvB SvC SvD SvE SvF SvG SvH SvI SvJ SvK SvL SvM SvN SvO SvP SvQ
set_option linter.unusedVariables false
set_option linter.unusedSimpArgs false
attribute [local go_sem] Oper.semAt_some
def sect (b : BS) (a : AR) (n : Int) : List Int := b.read (a.frm + n.toNat)
def nxt (b : BS) (a : AR) (n : Int) : Int := unle ((sect b a n).drop 510)
def inA (a : AR) (n : Int) : Bool := decide ((a.heads : Int) ≤ n) && decide (n < (a.sec : Int)) && decide (0 < n)
def Ch (b : BS) (a : AR) : Int → List Int → Prop
 | _, [] => True
 | n, x :: l => x = n ∧ inA a n = true ∧ Ch b a (nxt b a n) l
def ends (b : BS) (a : AR) (n : Int) (l : List Int) : Int := l.foldl (fun _ x => nxt b a x) n
theorem Ch.snoc {b : BS} {a : AR} : ∀ {l : List Int} {n : Int}, Ch b a n l → inA a (ends b a n l) = true → Ch b a n (l ++ [ends b a n l])
 | [], n, _, h => ⟨rfl, h, trivial⟩
 | x :: l, n, ⟨h1, h2, h3⟩, h => by
  subst h1
  exact ⟨rfl, h2, Ch.snoc h3 h⟩
theorem ends_snoc (b : BS) (a : AR) (n : Int) (l : List Int) (x : Int) : ends b a n (l ++ [x]) = nxt b a x := by simp [ends]
abbrev CX := Int × Option Addr
def cArgs (x : CX) : Array Value := #[.int .i64 x.1, .slice x.2 512 512]
def cG (b : BS) (a : AR) (x : CX) (W0 W : World) : Prop := BytesAt W x.2 512 (sect b a x.1) ∧ ∀ d, x.2 = some d → W0.heap.size ≤ d.block
structure KC (n₀ ab sb : Nat) (x : CX) (W W' : World) : Prop where
 below : Below n₀ W W'
 ha : W'.heap[ab]? = W.heap[ab]?
 hs : W'.heap[sb]? = W.heap[sb]?
 hx : ∀ (d : Addr) (cs : Array Value) (t : TypeId) (f : Nat × Nat), x.2 = some d → W.heap[d.block]? = some (.cells cs t f) → W'.heap[d.block]? = some (.cells cs t f)
theorem KC.trans {n₀ ab sb : Nat} {x : CX} {A B C : World} (h : KC n₀ ab sb x A B) (k : KC n₀ ab sb x B C) : KC n₀ ab sb x A C :=
  ⟨h.below.trans k.below, k.ha.trans h.ha, k.hs.trans h.hs, fun d cs t f hd hc => k.hx d cs t f hd (h.hx d cs t f hd hc)⟩
def chS (b : BS) (a : AR) (first : Int) (pre : List CX) : Prop := Ch b a first (pre.map (·.1)) ∧ inA a (ends b a first (pre.map (·.1))) = false
def chP (b : BS) (a : AR) (first : Int) (pre : List CX) : Prop := Ch b a first (pre.map (·.1))
def ChRel (b : BS) (a : AR) (first : Int) (w0 : World) (g ga ab sb N : Nat) (J : List CX → World → Prop) (m : Nat) (i : Value) (wr : World) : Prop :=
  ∃ pre, m + pre.length = N + 1 ∧ i = .int .i64 (ends b a first (pre.map (·.1))) ∧ Ch b a first (pre.map (·.1)) ∧ J pre wr ∧ Below w0.heap.size w0 wr ∧ Blk wr ab #[.pointer (some ⟨ga, 0, none⟩)] 90 ∧ Blk wr sb #[.pointer (some ⟨g, 0, none⟩)] 29
structure BOk (b : BS) : Prop where
 fit : Fits b
 ok : BS.ok b
 us : u8s b.safe
 up : ∀ q ∈ b.pend, u8s q.2
 len : b.safe.length % 512 = 0
theorem BOk.read {b : BS} (h : BOk b) {k : Nat} (hk : k < b.n) : (b.read k).length = 512 ∧ u8s (b.read k) := by
 unfold BS.read
 split
 ·
  rename_i q hq
  have hm := List.mem_reverse.1 (List.mem_of_find?_eq_some hq)
  exact ⟨(h.ok q hm).2.2, h.up q hm⟩
 ·
  unfold secOf
  unfold BS.n at hk
  exact ⟨by rw [List.length_take, List.length_drop]; omega, fun x hx => h.us x (List.mem_of_mem_drop (List.mem_of_mem_take hx))⟩
theorem BOk.nxt {b : BS} (h : BOk b) {a : AR} {n : Int} (hk : a.frm + n.toNat < b.n) : 0 ≤ nxt b a n ∧ nxt b a n < 65536 := by
 obtain ⟨h1, h2⟩ := h.read hk
 have := unle_lt (l := (sect b a n).drop 510) (fun x hx => h2 x (List.mem_of_mem_drop hx))
 have hl : ((sect b a n).drop 510).length = 2 := by rw [List.length_drop]; unfold sect; rw [h1]
 rw [hl] at this
 exact this
theorem inA_iff (a : AR) (n : Int) : inA a n = true ↔ (a.heads : Int) ≤ n ∧ n < a.sec ∧ 0 < n := by
 unfold inA
 simp [and_assoc]
theorem cells_of_cell {w : World} {a : Addr} {v : Value} (h : w.cell? a = some v) : ∃ cs t f, w.heap[a.block]? = some (.cells cs t f) := by
 unfold World.cell? at h
 cases ho : w.heap[a.block]? with
 | none => rw [ho] at h; simp at h
 | some o =>
  rw [ho] at h
  cases o with
  | cells cs t f => exact ⟨cs, t, f, rfl⟩
  | _ => simp at h
theorem bytes_kept {w w' : World} {A : Option Addr} {n : Nat} {xs : List Int} (h : BytesAt w A n xs) (hx : ∀ (d : Addr) (cs : Array Value) (t : TypeId) (f : Nat × Nat), A = some d → w.heap[d.block]? = some (.cells cs t f) → w'.heap[d.block]? = some (.cells cs t f)) : BytesAt w' A n xs :=
 C_move u8K_K h (by decide) (fun a ha hn => by
  obtain ⟨ad, e, hc⟩ := BytesAt.at_ h 0 hn
  rw [ha] at e
  injection e with e
  subst e
  rw [Addr.add_zero'] at hc
  obtain ⟨cs, t, f, h1⟩ := cells_of_cell hc
  rw [h1]
  exact hx a cs t f ha h1)
theorem cut_at {w : World} {d : Addr} {n : Nat} {xs : List Int} (h : BytesAt w (some d) n xs) (i m : Nat) (hi : 0 < i) (hm : i + m ≤ n) : BytesAt w (some ⟨d.block, d.off + i, none⟩) m ((xs.drop i).take m) := by
 obtain ⟨h1, h2, h3⟩ := h
 refine ⟨by rw [List.length_take, List.length_drop]; omega, by omega, fun hn => ⟨_, rfl, fun j p hj => ?_⟩⟩
 obtain ⟨ad, e, hc⟩ := h3 (by omega)
 injection e with e
 subst e
 have hj' : j < m := by
  have := (List.getElem?_eq_some_iff.1 hj).1
  rw [List.length_take] at this
  omega
 rw [List.getElem?_take_of_lt hj', List.getElem?_drop] at hj
 obtain ⟨c, hl, hK, hcell⟩ := hc (i + j) p hj
 refine ⟨c, hl, hK, fun q u hq => ?_⟩
 have := hcell q u hq
 have h1 : (Kd.int .u8).sz = 1 := rfl
 rw [h1] at this ⊢
 have e1 : d.add ((i + j) * 1 + q) = ⟨d.block, d.off + ((i + j) * 1 + q), none⟩ := by unfold Addr.add; rw [if_neg (by omega)]
 rw [e1] at this
 have e2 : ∀ x, (⟨d.block, d.off + i, none⟩ : Addr).add x = ⟨d.block, d.off + i + x, none⟩ := fun x => by unfold Addr.add; split <;> simp_all
 rw [e2, show d.off + i + (j * 1 + q) = d.off + ((i + j) * 1 + q) from by omega]
 exact this
set_option maxRecDepth 100000 in
set_option maxHeartbeats 2000000 in
theorem chain1_in (n : Nat) (hn : 1 ≤ n) (l : Nat) (w0 : World) (own : Nat → Nat) (t g gs : Nat) (ga : Nat → Nat) (S : SV) (i : Nat) (hi : i < 8) (H : ScM w0 own t g gs ga S i) (hS : BOk S.b) (ha : (S.ar i).frm + (S.ar i).sec ≤ S.b.n) (first : Int) (hb ab sb N : Nat) (J Jx : List CX → World → Prop)
  (hN : ∀ pre W, J pre W → pre.length ≤ N) (hJ : ∀ pre W W', J pre W → Below W.heap.size W W' → J pre W')
  (hY : ∀ pre x W0 W1, J pre W0 → Below W0.heap.size W0 W1 → J pre W1 → cG S.b (S.ar i) x W0 W1 → chP S.b (S.ar i) first (pre ++ [x]) → YieldAt Fence.wide (n - 1) Tryz.prog l (cArgs x) W1 fun e W' =>
   (e = .returned (.bool true) ∧ J (pre ++ [x]) W' ∧ KC w0.heap.size ab sb x W1 W') ∨ (e = .returned (.bool false) ∧ Jx (pre ++ [x]) W'))
  (W : World) (hb0 : Below w0.heap.size w0 W) (hh : W.cell? ⟨hb, 5, none⟩ = some (.int .i64 first)) (hab : Blk W ab #[.pointer (some ⟨ga i, 0, none⟩)] 90) (hsb : Blk W sb #[.pointer (some ⟨g, 0, none⟩)] 29) (h0 : J [] W) :
  CallsIn Fence.wide n Tryz.prog 143 #[.func (.yield l) #[] #[], .pointer (some ⟨hb, 0, none⟩), .pointer (some ⟨ab, 0, none⟩), .pointer (some ⟨sb, 0, none⟩)] W fun e W' => (∃ v, e = .returned v) ∧
   ((∃ ys, chS S.b (S.ar i) first ys ∧ J ys W') ∨ (∃ pre, chP S.b (S.ar i) first pre ∧ Jx pre W')) := by
 have HR0 : ChRel S.b (S.ar i) first w0 g (ga i) ab sb N J (N + 1) (.int .i64 first) W := ⟨[], rfl, rfl, trivial, h0, hb0, hab, hsb⟩
 have HR := Lib.hid HR0
 clear h0 hb0 hab hsb HR0
 refine callsIn_of_wp Tryz.func143 rfl trivial ?_ rfl
 simp only [Tryz.ntmps143, List.size_toArray, List.length_cons, List.length_nil, Nat.reduceAdd, Nat.reduceSub, Array.replicate_succ, Array.replicate_zero, List.push_toArray, List.append_toArray, List.nil_append, List.cons_append]
 gi_wp2
 gi_loopw [5, 6] (fun v _ wr => ∃ m, ChRel S.b (S.ar i) first w0 g (ga i) ab sb N J m v wr) (fun v _ wr => leastOf (fun m => ChRel S.b (S.ar i) first w0 g (ga i) ab sb N J m v wr))
 case atStart => exact ⟨_, HR.out⟩
 case round =>
  clear HR hh
  have hl := leastOf_spec hrel
  generalize hmm : leastOf (fun m => ChRel S.b (S.ar i) first w0 g (ga i) ab sb N J m u5 wr) = m at hl
  have HL := Lib.hid hl.2
  have HM := Lib.hid hmm
  clear hmm
  obtain ⟨pre, hm, rfl, hch, hJp, hbl, hab, hsb⟩ := hl.1
  clear hrel hl
  have hlen := hN _ _ hJp
  have HW := H.below hbl
  obtain ⟨q0, q1, q2, q3⟩ := HW.ar
  have ca : wr.cell? ⟨ab, 0, none⟩ = some (.pointer (some ⟨ga i, 0, none⟩)) := Blk.cell (i := 0) hab rfl
  have cs : wr.cell? ⟨sb, 0, none⟩ = some (.pointer (some ⟨g, 0, none⟩)) := Blk.cell (i := 0) hsb rfl
  generalize hnn : ends S.b (S.ar i) first (pre.map (·.1)) = x at *
  cases hin : inA (S.ar i) x
  ·
   have HE := Lib.hid (show chS S.b (S.ar i) first pre from ⟨hch, by rw [hnn]; exact hin⟩)
   have HJ := Lib.hid hJp
   have hno : ¬ (((S.ar i).heads : Int) ≤ x ∧ x < (S.ar i).sec ∧ 0 < x) := fun h => by rw [(inA_iff _ _).2 h] at hin; cases hin
   clear HW hJp hbl hab hsb hch hnn hin
   by_cases h1 : ((S.ar i).heads : Int) ≤ x
   ·
    by_cases h2 : x < ((S.ar i).sec : Int)
    ·
     by_cases h3 : 0 < x
     · exact absurd ⟨h1, h2, h3⟩ hno
     ·
      clear hno
      gi_wp2
      go_end0
      exact ⟨⟨_, rfl⟩, .inl ⟨pre, HE.out, HJ.out⟩⟩
    ·
     clear hno
     gi_wp2
     go_end0
     exact ⟨⟨_, rfl⟩, .inl ⟨pre, HE.out, HJ.out⟩⟩
   ·
    clear hno
    gi_wp2
    go_end0
    exact ⟨⟨_, rfl⟩, .inl ⟨pre, HE.out, HJ.out⟩⟩
  ·
   obtain ⟨h1, h2, h3⟩ := (inA_iff _ _).1 hin
   obtain ⟨k, rfl⟩ := Int.eq_ofNat_of_zero_le (show 0 ≤ x by omega)
   have hk : (S.ar i).frm + k < S.b.n := by omega
   have HC := Lib.hid (sread_ok wr _ t gs S.b HW.st g (ga i) (S.ar i).frm k HW.c0 q1 hk hS.fit)
   have HCH := Lib.hid (show ∀ A : Option Addr, chP S.b (S.ar i) first (pre ++ [((k : Int), A)]) from fun A => by
    have := Ch.snoc hch (by rw [hnn]; exact hin)
    rw [hnn] at this
    unfold chP
    rw [List.map_append]
    exact this)
   have HEN := Lib.hid (show ∀ A : Option Addr, ends S.b (S.ar i) first ((pre ++ [((k : Int), A)]).map (·.1)) = nxt S.b (S.ar i) (k : Int) from fun A => by rw [List.map_append]; exact ends_snoc _ _ _ _ _)
   have hnx := hS.nxt (a := S.ar i) (n := (k : Int)) hk
   obtain ⟨r1, r2⟩ := hS.read hk
   have HU := Lib.hid (show u8s ((sect S.b (S.ar i) (k : Int)).drop 510) from fun y hy => r2 y (List.mem_of_mem_drop hy))
   have HY := Lib.hid (fun (A : Option Addr) W2 => hY pre ((k : Int), A) wr W2)
   have HBL := Lib.hid hbl
   have HJP := Lib.hid hJp
   have HAB := Lib.hid hab
   have HSB := Lib.hid hsb
   clear HW hJp hbl hab hsb hch hnn hin r1 r2
   gi_wp2_with (refine ⟨trivial, ?_⟩; gi_at_call 125; refine (callsIn_wide.2 HC.out).mono ?_; rintro e W2 ⟨A, rfl, f1, f2, f3⟩; have hJ2 := hJ _ _ _ HJP.out f3; obtain ⟨fn, tmps, assign, body, hy, hR⟩ := HY.out A W2 HJP.out f3 hJ2 ⟨f1, f2⟩ (HCH.out A); dsimp only [cArgs] at hy; obtain ⟨d, hd, hcd⟩ := BytesAt.at_ f1 0 (by decide); subst hd; have HF1 := Lib.hid f1; have HF3 := Lib.hid f3; have HRR := Lib.hid hR; clear f1 f2 f3 hcd hJ2 hR)
   refine HRR.out.mono ?_
   rintro e W3 (⟨rfl, hJ3, hk3⟩ | ⟨rfl, hJx3⟩)
   ·
    have HB3 := Lib.hid (bytes_kept HF1.out hk3.hx)
    have HG := Lib.hid (show BytesAt W3 (some ⟨d.block, d.off + 510, none⟩) 2 ((sect S.b (S.ar i) (k : Int)).drop 510) by
     have h := cut_at HB3.out 510 2 (by omega) (by omega)
     rwa [List.take_of_length_le (by rw [List.length_drop, (hS.read hk).1]; decide)] at h)
    have HKC := Lib.hid hk3
    have HJ3 := Lib.hid hJ3
    clear hk3 hJ3
    have hv : nxt S.b (S.ar i) (k : Int) = unle ((sect S.b (S.ar i) (k : Int)).drop 510) := rfl
    have HGC := Lib.hid (get_ok W3 (some ⟨d.block, d.off + 510, none⟩) 2 2 _ HG.out HU.out (by decide) (by decide))
    rw [← hv] at HGC
    clear hv hy
    have HEA := Lib.hid (HEN.out (some d))
    have HCA := Lib.hid (HCH.out (some d))
    generalize nxt S.b (S.ar i) (k : Int) = v at *
    gi_wp2_with (refine ⟨trivial, ?_⟩; gi_at_call 105; refine (callsIn_wide.2 HGC.out).mono ?_; rintro e W4 ⟨rfl, rfl⟩)
    have HRN : ChRel S.b (S.ar i) first w0 g (ga i) ab sb N J (m - 1) (.int .i64 v) W3 :=
     ⟨pre ++ [((k : Int), some d)], by rw [List.length_append, List.length_singleton]; omega, by rw [HEA.out], HCA.out, HJ3.out, ((HBL.out.trans (HF3.out.mono HBL.out.size)).trans HKC.out.below), HKC.out.ha.trans ((HF3.out.block ab (Blk.lt HAB.out)).trans HAB.out), HKC.out.hs.trans ((HF3.out.block sb (Blk.lt HSB.out)).trans HSB.out)⟩
    go_roundw
    case rel => exact ⟨_, HRN⟩
    case measure =>
     have h := (leastOf_spec (p := fun m => ChRel S.b (S.ar i) first w0 g (ga i) ab sb N J m (.int .i64 v) W3) ⟨_, HRN⟩).2 (m - 1) HRN
     have h2 := HM.out
     first | (rw [h2]; omega) | (show _ < _; simp only [h2]; omega) | omega
   ·
    gi_wp2
    refine bodyPost_ret (results_none rfl _ _ _) rfl ?_
    exact ⟨⟨_, rfl⟩, .inr ⟨_, HCH.out _, hJx3⟩⟩
set_option maxHeartbeats 1000000 in
theorem chain_ok (w : World) (g ga : Nat) (h : HD) : Calls Tryz.prog 102 #[pt g, pt ga, h.enc] w fun e w' => e = .returned (.func (.func 143) #[] #[.pointer (some ⟨w.heap.size + 1 + 1, 0, none⟩), .pointer (some ⟨w.heap.size + 1, 0, none⟩), .pointer (some ⟨w.heap.size, 0, none⟩)]) ∧
  ((w.alloc (.cells #[pt g] 29)).alloc (.cells #[pt ga] 90)).alloc (.cells h.cells 105) = w' := by
 obtain ⟨x1, x2, x3, x4, x5, x6⟩ := h
 unfold HD.enc HD.cells
 go_enter Tryz.func102, Tryz.ntmps102
 go_wp2_with fail
 go_ret
 exact ⟨rfl, rfl⟩
theorem chain_told (n : Nat) (hn : 1 ≤ n) (w0 : World) (own : Nat → Nat) (t g gs : Nat) (ga : Nat → Nat) (S : SV) (i : Nat) (hi : i < 8) (H : ScM w0 own t g gs ga S i) (hS : BOk S.b) (ha : (S.ar i).frm + (S.ar i).sec ≤ S.b.n) (first : Int) (hb ab sb N : Nat) (w : World)
  (hb0 : Below w0.heap.size w0 w) (hh : w.cell? ⟨hb, 5, none⟩ = some (.int .i64 first)) (hab : Blk w ab #[.pointer (some ⟨ga i, 0, none⟩)] 90) (hsb : Blk w sb #[.pointer (some ⟨g, 0, none⟩)] 29) :
  SeqTold Fence.wide n Tryz.prog 143 #[.pointer (some ⟨hb, 0, none⟩), .pointer (some ⟨ab, 0, none⟩), .pointer (some ⟨sb, 0, none⟩)] cArgs (cG S.b (S.ar i)) (KC w0.heap.size ab sb) (chS S.b (S.ar i) first) (chP S.b (S.ar i) first) N w := fun l J Jx W hW hJa _ hN hY h0 =>
 chain1_in n hn l w0 own t g gs ga S i hi H hS ha first hb ab sb N J Jx hN (fun pre A B hj hAB => hJa pre A B none hj ⟨hAB.os, hAB.tape, hAB.output, hAB.size, fun k hk _ => hAB.block k hk⟩ (fun r e => by cases e)) hY W (hb0.trans (hW.mono hb0.size)) ((World.cell?_of_block (w := w) (a := ⟨hb, 5, none⟩) (hW.block hb (World.block_lt_of_cell? w _ hh))).trans hh) (hab.below hW) (hsb.below hW) h0
end Go.Proofs.YtmofiicjaldmiaaGreatDoor.SvR
end
section
namespace Go.Proofs.YtmofiicjaldmiaaGreatDoor.SvS
open Go.RowKit Go.Shelf YtmofiicjaldmiaaGreatDoorW.PrintWords YtmofiicjaldmiaaGreatDoorW.PrintLast SvA SvB SvC SvD SvE SvF SvG SvH SvI SvJ SvK SvL SvM SvN SvO SvP SvQ SvR
set_option linter.unusedVariables false
set_option linter.unusedSimpArgs false
theorem fol1_ok (x : Int) (w : World) : Calls Tryz.prog 104 #[.int .u8 x] w fun e w' => e = .returned (.bool (x != 0)) ∧ w = w' := by
 go_enter Tryz.func104, Tryz.ntmps104
 go_wp2_with fail
 go_ret
 exact ⟨rfl, rfl⟩
theorem bindex_ok (w : World) (A : Option Addr) (n c : Nat) (xs : List Int) (hx : BytesAt w A n xs) (hn : n < 2 ^ 40) : Calls Tryz.prog 144 #[.slice A n c, .func (.func 104) #[] #[]] w fun e w' => e = .returned (.int .i64 (findI (· != 0) xs)) ∧ w = w' := by
 have hE := enters 104 Tryz.func104 (by kernel_rfl) rfl
 have hxl : xs.length = n := hx.1
 have HX := Lib.hid hx
 clear hx
 go_enter Tryz.func144, Tryz.ntmps144
 go_wp2_with fail
 go_loopw [8, 5] (fun i _ wr => ∃ k : Nat, k ≤ n ∧ i = .int .i64 (k : Int) ∧ w = wr ∧ ∀ (j : Nat) (y : Int), j < k → xs[j]? = some y → (y != 0) = false) (fun i _ _ => n - (intOf i).toNat)
 case atStart => exact ⟨0, by omega, rfl, rfl, fun j y hj => by omega⟩
 case round =>
  obtain ⟨k, hk, rfl, rfl, hno⟩ := hrel
  have HN := Lib.hid hno
  clear hno
  by_cases hlt : k < n
  ·
   have dl : decide ((k : Int) < (n : Int)) = true := by simp; omega
   have hkn : (k : Int) < (n : Int) := by omega
   obtain ⟨x, hx⟩ : ∃ x, xs[k]? = some x := ⟨_, List.getElem?_eq_getElem (by omega)⟩
   obtain ⟨ad, hA, hc⟩ := sc_at HX.out k hlt x hx
   subst hA
   have HX := Lib.hid hx
   clear hx
   have HF := Lib.hid (fol1_ok x w)
   cases hxv : (x != 0)
   ·
    have HG : Hid (∀ (j : Nat) (y : Int), j < k + 1 → xs[j]? = some y → (y != 0) = false) := Lib.hid (fun j y hj hy => by
     rcases Nat.lt_succ_iff_lt_or_eq.1 hj with hj | rfl
     · exact HN.out j y hj hy
     ·
      rw [HX.out] at hy
      injection hy with hy
      rw [← hy]
      exact hxv)
    rw [hxv] at HF
    clear hxv
    go_wp2_with (go_at_call 104; refine HF.out.mono ?_; rintro e w' ⟨rfl, rfl⟩)
    go_roundw
    case rel => exact ⟨k + 1, by omega, by go_num, trivial, HG.out⟩
    case measure => simp [intOf]; omega
   ·
    have HT : Hid (findI (· != 0) xs = k) := Lib.hid (findI_hit HX.out HN.out hxv)
    rw [hxv] at HF
    clear hxv
    go_wp2_with (go_at_call 104; refine HF.out.mono ?_; rintro e w' ⟨rfl, rfl⟩)
    go_ret
    exact ⟨ret_int HT.out.symm, rfl⟩
  ·
   obtain rfl : k = n := by omega
   have dl : decide ((k : Int) < (k : Int)) = false := by simp
   have HT : Hid (findI (· != 0) xs = -1) := Lib.hid (findI_none (fun x hx => by
    obtain ⟨j, hj⟩ := List.getElem?_of_mem hx
    exact HN.out j x (by have := (List.getElem?_eq_some_iff.1 hj).1; omega) hj))
   go_wp2_with fail
   go_ret
   exact ⟨ret_int HT.out.symm, rfl⟩
theorem bcontains_ok (w : World) (A : Option Addr) (n c : Nat) (xs : List Int) (hx : BytesAt w A n xs) (hn : n < 2 ^ 40) : Calls Tryz.prog 103 #[.slice A n c, .func (.func 104) #[] #[]] w fun e w' => e = .returned (.bool (xs.any (· != 0))) ∧ w = w' := by
 have hc := bindex_ok w A n c xs hx hn
 have HT := Lib.hid (findI_any (p := (· != 0)) xs)
 generalize findI (· != 0) xs = r at hc HT
 have HC := Lib.hid hc
 clear hc hx
 go_enter Tryz.func103, Tryz.ntmps103
 go_wp2_with (go_at_call 144; refine HC.out.mono ?_; rintro e w' ⟨rfl, rfl⟩)
 go_ret
 exact ⟨ret_bool HT.out, rfl⟩
def partN (size : Int) (data : List Int) : Int := min 510 (size - data.length)
def folBad (b : BS) (a : AR) (size : Int) (secs data : List Int) (n : Int) : Bool :=
  decide (partN size data ≤ 0) || secs.contains n || (((sect b a n).drop (partN size data).toNat).take (510 - (partN size data).toNat)).any (· != 0)
def folNext (b : BS) (a : AR) (size : Int) (data : List Int) (n : Int) : List Int := data ++ (sect b a n).take (partN size data).toNat
def fol (b : BS) (a : AR) (size : Int) : List Int → List Int → List Int → Option (List Int × List Int)
 | secs, data, [] => some (secs, data)
 | secs, data, n :: l => if folBad b a size secs data n then none else fol b a size (secs ++ [n]) (folNext b a size data n) l
def folF (b : BS) (a : AR) (size : Int) : Nat → Int → List Int → List Int → Option (List Int × List Int × Int)
 | 0, _, _, _ => none
 | f + 1, n, secs, data => if inA a n then (if folBad b a size secs data n then none else folF b a size f (nxt b a n) (secs ++ [n]) (folNext b a size data n)) else some (secs, data, n)
def followS (b : BS) (a : AR) (h : HD) : List Int × List Int × Bool :=
 match folF b a h.size (a.sec + 2) h.first [] [] with
 | none => ([], [], false)
 | some (secs, data, n) => (secs, data, decide (n = 0) && decide ((data.length : Int) = h.size) && decide (sumS data = h.sum))
theorem fol_snoc (b : BS) (a : AR) (size : Int) : ∀ (l secs data s2 d2 : List Int) (n : Int), fol b a size secs data l = some (s2, d2) → fol b a size secs data (l ++ [n]) = if folBad b a size s2 d2 n then none else some (s2 ++ [n], folNext b a size d2 n)
 | [], secs, data, s2, d2, n, h => by
  simp only [fol, Option.some.injEq, Prod.mk.injEq] at h
  obtain ⟨rfl, rfl⟩ := h
  simp only [List.nil_append, fol]
 | x :: l, secs, data, s2, d2, n, h => by
  simp only [fol] at h
  split at h
  · cases h
  ·
   rename_i hb
   simp only [List.cons_append, fol]
   rw [if_neg hb]
   exact fol_snoc b a size l _ _ s2 d2 n h
theorem fol_secs (b : BS) (a : AR) (size : Int) : ∀ (l secs data s2 d2 : List Int), fol b a size secs data l = some (s2, d2) → s2 = secs ++ l
 | [], secs, data, s2, d2, h => by
  simp only [fol, Option.some.injEq, Prod.mk.injEq] at h
  simp [h.1]
 | x :: l, secs, data, s2, d2, h => by
  simp only [fol] at h
  split at h
  · cases h
  ·
   rw [fol_secs b a size l _ _ s2 d2 h]
   simp
theorem folF_done (b : BS) (a : AR) (size : Int) : ∀ (l : List Int) (f : Nat) (n : Int) (secs data s2 d2 : List Int), Ch b a n l → fol b a size secs data l = some (s2, d2) → inA a (ends b a n l) = false → l.length < f → folF b a size f n secs data = some (s2, d2, ends b a n l)
 | [], f, n, secs, data, s2, d2, _, h, hin, hf => by
  obtain ⟨f, rfl⟩ : ∃ g, f = g + 1 := ⟨f - 1, by simp at hf; omega⟩
  simp only [fol, Option.some.injEq, Prod.mk.injEq] at h
  obtain ⟨rfl, rfl⟩ := h
  simp only [ends, List.foldl_nil] at hin ⊢
  simp [folF, hin]
 | x :: l, f, n, secs, data, s2, d2, ⟨h1, h2, h3⟩, h, hin, hf => by
  subst h1
  obtain ⟨f, rfl⟩ : ∃ g, f = g + 1 := ⟨f - 1, by simp at hf; omega⟩
  simp only [fol] at h
  split at h
  · cases h
  ·
   rename_i hb
   simp only [folF, if_pos h2, if_neg hb]
   exact folF_done b a size l f _ _ _ s2 d2 h3 h hin (by simp at hf; omega)
theorem folF_bad (b : BS) (a : AR) (size : Int) : ∀ (l : List Int) (f : Nat) (n : Int) (secs data s2 d2 : List Int) (x : Int), Ch b a n (l ++ [x]) → fol b a size secs data l = some (s2, d2) → folBad b a size s2 d2 x = true → folF b a size f n secs data = none
 | [], f, n, secs, data, s2, d2, x, ⟨h1, h2, _⟩, h, hb => by
  simp only [fol, Option.some.injEq, Prod.mk.injEq] at h
  obtain ⟨rfl, rfl⟩ := h
  subst h1
  cases f with
  | zero => rfl
  | succ f => simp only [folF, if_pos h2, if_pos hb]
 | y :: l, f, n, secs, data, s2, d2, x, ⟨h1, h2, h3⟩, h, hb => by
  subst h1
  cases f with
  | zero => rfl
  | succ f =>
   simp only [fol] at h
   split at h
   · cases h
   ·
    rename_i hn
    simp only [folF, if_pos h2, if_neg hn]
    exact folF_bad b a size l f _ _ _ s2 d2 x h3 h hb
theorem nodup_len : ∀ (n : Nat) (l : List Int), l.Nodup → (∀ x ∈ l, 0 ≤ x ∧ x < (n : Int)) → l.length ≤ n
 | 0, l, _, h => by
  cases l with
  | nil => simp
  | cons x l => have := h x List.mem_cons_self; omega
 | n + 1, l, hd, h => by
  have h1 := nodup_len n (l.erase (n : Int)) (hd.erase _) (fun x hx => by
   have := (List.Nodup.mem_erase_iff hd).1 hx
   have h2 := h x this.2
   have h3 := this.1
   omega)
  have := List.length_erase_le (a := (n : Int)) (l := l)
  by_cases hm : (n : Int) ∈ l
  ·
   have := List.length_erase_of_mem hm
   omega
  ·
   rw [List.erase_of_not_mem hm] at h1
   omega
theorem fol_nodup (b : BS) (a : AR) (size : Int) : ∀ (l secs data s2 d2 : List Int), fol b a size secs data l = some (s2, d2) → secs.Nodup → s2.Nodup
 | [], secs, data, s2, d2, h, hs => by
  simp only [fol, Option.some.injEq, Prod.mk.injEq] at h
  rw [← h.1]
  exact hs
 | x :: l, secs, data, s2, d2, h, hs => by
  simp only [fol] at h
  split at h
  · cases h
  ·
   rename_i hb
   refine fol_nodup b a size l _ _ s2 d2 h ?_
   have : secs.contains x = false := by
    cases hc : secs.contains x with
    | false => rfl
    | true => exact absurd (by unfold folBad; rw [hc]; simp) hb
   rw [List.nodup_append]
   refine ⟨hs, by simp, fun y hy z hz e => ?_⟩
   simp at hz
   subst hz
   subst e
   rw [List.contains_iff_mem.2 hy] at this
   cases this
theorem ch_mem {b : BS} {a : AR} : ∀ {l : List Int} {n : Int}, Ch b a n l → ∀ x ∈ l, inA a x = true
 | y :: l, n, ⟨h1, h2, h3⟩, x, hx => by
  rcases List.mem_cons.1 hx with rfl | hx
  · rw [h1]; exact h2
  · exact ch_mem h3 x hx
theorem fol_len {b : BS} {a : AR} {size n : Int} {l s2 d2 : List Int} (hc : Ch b a n l) (h : fol b a size [] [] l = some (s2, d2)) : l.length ≤ a.sec := by
 have h1 := fol_secs b a size l [] [] s2 d2 h
 have h2 := fol_nodup b a size l [] [] s2 d2 h (by simp)
 rw [h1] at h2
 exact nodup_len a.sec l (by simpa using h2) (fun x hx => by have := (inA_iff a x).1 (ch_mem hc x hx); omega)
theorem fol_size (b : BS) (a : AR) (size : Int) : ∀ (l secs data s2 d2 : List Int), fol b a size secs data l = some (s2, d2) → (data.length : Int) ≤ size → (d2.length : Int) ≤ size
 | [], secs, data, s2, d2, h, hs => by
  simp only [fol, Option.some.injEq, Prod.mk.injEq] at h
  rw [← h.2]
  exact hs
 | x :: l, secs, data, s2, d2, h, hs => by
  simp only [fol] at h
  split at h
  · cases h
  ·
   refine fol_size b a size l _ _ s2 d2 h ?_
   unfold folNext partN
   rw [List.length_append, List.length_take]
   omega
theorem fol_u8 (b : BS) (a : AR) (hb : BOk b) (size : Int) : ∀ (l secs data s2 d2 : List Int), fol b a size secs data l = some (s2, d2) → (∀ x ∈ l, a.frm + x.toNat < b.n) → u8s data → u8s d2
 | [], secs, data, s2, d2, h, _, hs => by
  simp only [fol, Option.some.injEq, Prod.mk.injEq] at h
  rw [← h.2]
  exact hs
 | x :: l, secs, data, s2, d2, h, hx, hs => by
  simp only [fol] at h
  split at h
  · cases h
  ·
   refine fol_u8 b a hb size l _ _ s2 d2 h (fun y hy => hx y (List.mem_cons_of_mem _ hy)) ?_
   intro y hy
   unfold folNext at hy
   rcases List.mem_append.1 hy with hy | hy
   · exact hs y hy
   · exact (hb.read (hx x List.mem_cons_self)).2 y (List.mem_of_mem_take hy)
end Go.Proofs.YtmofiicjaldmiaaGreatDoor.SvS
end
section
namespace Go.Proofs.YtmofiicjaldmiaaGreatDoor.SvT
open Go.RowKit Go.Shelf YtmofiicjaldmiaaGreatDoorW.PrintWords YtmofiicjaldmiaaGreatDoorW.PrintLast SvA SvB SvC SvD SvE SvF SvG SvH SvI SvJ SvK SvL SvM SvN SvO SvP SvQ SvR SvS
set_option linter.unusedVariables false
set_option linter.unusedSimpArgs false
attribute [local go_sem] Oper.semAt_some
structure FoSt (w : World) (g ga : Nat) (h : HD) (o : Nat → Nat) (zs zd : Sl) (secs data : List Int) (next : Int) (ok : Bool) (W : World) : Prop where
 bl : Below w.heap.size w W
 bh : Blk W w.heap.size h.cells 105
 bs : Blk W (w.heap.size + 1) #[.slice zs.A zs.n zs.c] 53
 bd : Blk W (w.heap.size + 2) #[.slice zd.A zd.n zd.c] 43
 bk : Blk W (w.heap.size + 3) #[.bool ok] 4
 bn : Blk W (w.heap.size + 4) #[.int .i64 next] 3
 bb : Blk W (w.heap.size + 5) #[pt g] 29
 bar : Blk W (w.heap.size + 6) #[pt ga] 90
 os : Ow i64K 3 W o 1 zs secs
 od : Ow u8K 5 W o 2 zd data
 ob : ∀ k, k < w.heap.size + 8 → o k = if k < w.heap.size then 0 else if w.heap.size < k ∧ k < w.heap.size + 5 then 3 else 4
 sz : w.heap.size + 8 ≤ W.heap.size
def FollowP (w : World) (secs data : List Int) (ok : Bool) (e : Ending) (w' : World) : Prop := ∃ (zs zd : Sl) (o : Nat → Nat), e = .returned (.tuple #[zs.enc, zd.enc, .bool ok]) ∧ Ow i64K 3 w' o 1 zs secs ∧ Ow u8K 5 w' o 2 zd data ∧ (∀ k, k < w.heap.size → o k = 0) ∧ Below w.heap.size w w'
theorem ow_exact {α : Type} {enc : α → Value} {h1 : ∀ x, (enc x).oneCell' = true} {e : Nat} {w : World} {base : Nat} {ok : Nat → Prop} {v : Value} {xs : List α} (h : (Kd.scalar enc h1).R e w base ok v xs) : (Kd.scalar enc h1).R e w base (fun k => ok k ∧ v.ownBlock = some k) v xs := ⟨fun k hk => ⟨h.1 k hk, hk⟩, h.2.imp_ (fun _ _ hp => hp)⟩
theorem ow_grown {α : Type} {enc : α → Value} {h1 : ∀ x, (enc x).oneCell' = true} {e : Nat} {X Y : World} {o : Nat → Nat} {t : Nat} {s : Sl} {xs : List α} {row : Option Nat} (h : Ow (Kd.scalar enc h1) e X o t s xs) (hg : X.grownBy Y row) (hr : ∀ r, row = some r → ∃ ob : Obj, X.heap[r]? = some ob ∧ ob.isCells = false) : Ow (Kd.scalar enc h1) e Y o t s xs :=
 Kd.R_mono (Kd.R_move (Kd.R_bound (ow_exact h)) (fun k hk => hg.block k hk.2.2.1 (fun e' => by
  obtain ⟨ob, ho, hc⟩ := hr k e'.symm
  obtain ⟨cs, hcs⟩ := Kd.R_typed h k hk.1.2
  rw [hcs] at ho
  cases ho
  cases hc))) (fun k hk => hk.1.1)
theorem rd_grown {X Y : World} {A : Option Addr} {n : Nat} {xs : List Int} {row : Option Nat} (h : BytesAt X A n xs) (hg : X.grownBy Y row) (hr : ∀ r, row = some r → ∃ ob : Obj, X.heap[r]? = some ob ∧ ob.isCells = false) : BytesAt Y A n xs :=
 bytes_kept h (fun d cs t f hd hc => (hg.block d.block (Array.getElem?_eq_some_iff.1 hc).1 (fun e' => by
  obtain ⟨ob, ho, hcc⟩ := hr _ e'.symm
  rw [hc] at ho
  cases ho
  cases hcc)).trans hc)
theorem FoSt.grown {w : World} {g ga : Nat} {h : HD} {o : Nat → Nat} {zs zd : Sl} {secs data : List Int} {next : Int} {ok : Bool} {X Y : World} {row : Option Nat} (H : FoSt w g ga h o zs zd secs data next ok X) (hg : X.grownBy Y row) (hr : ∀ r, row = some r → w.heap.size + 8 ≤ r ∧ ∃ ob : Obj, X.heap[r]? = some ob ∧ ob.isCells = false) : FoSt w g ga h o zs zd secs data next ok Y := by
 have hb : ∀ (k : Nat) (cs : Array Value) (t : TypeId), k < w.heap.size + 8 → Blk X k cs t → Blk Y k cs t := fun k cs t hk h =>
  (hg.block k (Blk.lt h) (fun e' => by have := (hr k e'.symm).1; omega)).trans h
 exact ⟨⟨hg.os.trans H.bl.os, hg.tape.trans H.bl.tape, hg.output.trans H.bl.output, Nat.le_trans H.bl.size hg.size, fun k hk => (hg.block k (Nat.lt_of_lt_of_le hk H.bl.size) (fun e' => by have := (hr k e'.symm).1; omega)).trans (H.bl.block k hk)⟩,
  hb _ _ _ (by omega) H.bh, hb _ _ _ (by omega) H.bs, hb _ _ _ (by omega) H.bd, hb _ _ _ (by omega) H.bk, hb _ _ _ (by omega) H.bn, hb _ _ _ (by omega) H.bb, hb _ _ _ (by omega) H.bar, ow_grown H.os hg (fun r e => (hr r e).2), ow_grown H.od hg (fun r e => (hr r e).2), H.ob, Nat.le_trans H.sz hg.size⟩
def foO (w : World) : Nat → Nat := fun k => if k < w.heap.size then 0 else if w.heap.size < k ∧ k < w.heap.size + 5 then 3 else 4
def foW (w : World) (g ga : Nat) (h : HD) : World :=
  (((((((w.alloc (.cells h.cells 105)).alloc (.cells #[.slice none 0 0] 53)).alloc (.cells #[.slice none 0 0] 43)).alloc (.cells #[.bool false] 4)).alloc (.cells #[.int .i64 h.first] 3)).alloc (.cells #[pt g] 29)).alloc (.cells #[pt ga] 90)).alloc (.cells h.cells 105)
theorem foW_size (w : World) (g ga : Nat) (h : HD) : (foW w g ga h).heap.size = w.heap.size + 8 := by simp [foW]
theorem FoSt.start (w : World) (g ga : Nat) (h : HD) : FoSt w g ga h (foO w) nilS nilS [] [] h.first false (foW w g ga h) ∧ Blk (foW w g ga h) (w.heap.size + 7) h.cells 105 := by
 unfold foW
 refine ⟨⟨?_, ?_, ?_, ?_, ?_, ?_, ?_, ?_, Kd.R_nil _ _ _ _ _, Kd.R_nil _ _ _ _ _, fun k hk => rfl, by simp⟩, ?_⟩
 · exact ((((((((Below.refl _ w).alloc (Nat.le_refl _) _).alloc (by simp) _).alloc (by simp; omega) _).alloc (by simp; omega) _).alloc (by simp; omega) _).alloc (by simp; omega) _).alloc (by simp; omega) _).alloc (by simp; omega) _
 · exact (((((((blkNew rfl).below (ba _)).below (ba _)).below (ba _)).below (ba _)).below (ba _)).below (ba _)).below (ba _)
 · exact ((((((blkNew (by simp)).below (ba _)).below (ba _)).below (ba _)).below (ba _)).below (ba _)).below (ba _)
 · exact (((((blkNew (by simp)).below (ba _)).below (ba _)).below (ba _)).below (ba _)).below (ba _)
 · exact ((((blkNew (by simp)).below (ba _)).below (ba _)).below (ba _)).below (ba _)
 · exact (((blkNew (by simp)).below (ba _)).below (ba _)).below (ba _)
 · exact ((blkNew (by simp)).below (ba _)).below (ba _)
 · exact (blkNew (by simp)).below (ba _)
 · exact blkNew (by simp)
theorem FoSt.below {w : World} {g ga : Nat} {h : HD} {o : Nat → Nat} {zs zd : Sl} {secs data : List Int} {next : Int} {ok : Bool} {X Y : World} (H : FoSt w g ga h o zs zd secs data next ok X) (hb : Below X.heap.size X Y) : FoSt w g ga h (tagged X o 0) zs zd secs data next ok Y := by
 have hk := Kp.below (ts := fun _ => False) (own := o) hb 0
 have hs := H.sz
 exact ⟨H.bl.trans (hb.mono H.bl.size), H.bh.below hb, H.bs.below hb, H.bd.below hb, H.bk.below hb, H.bn.below hb, H.bb.below hb, H.bar.below hb, H.os.keep hk (fun q => q), H.od.keep hk (fun q => q), fun k hk' => by
  rw [tagged_old (by omega)]
  exact H.ob k hk', Nat.le_trans hs hb.size⟩
def XM (o : Nat → Nat) (A : Option Addr) (xs : List Int) (W : World) : Prop := BytesAt W A 512 xs ∧ ∀ d, A = some d → o d.block = 0
theorem XM.keep {o o' : Nat → Nat} {A : Option Addr} {xs : List Int} {W W' : World} {ts : Nat → Prop} (h : XM o A xs W) (hk : Kp ts W o W' o') (h0 : ¬ ts 0) : XM o' A xs W' := by
 have hb : ∀ d, A = some d → o' d.block = o d.block ∧ W'.heap[d.block]? = W.heap[d.block]? := fun d hd => hk.block d.block (C_lt h.1 (by decide) d hd (by decide)) (by rw [h.2 d hd]; exact h0)
 exact ⟨C_move u8K_K h.1 (by decide) (fun d hd _ => (hb d hd).2), fun d hd => (hb d hd).1.trans (h.2 d hd)⟩
abbrev q3 : Nat → Prop := fun q => q = 1 ∨ q = 2 ∨ q = 3
theorem FoSt.kc {w : World} {g ga : Nat} {h : HD} {o o' : Nat → Nat} {zs zd : Sl} {secs data : List Int} {next : Int} {ok : Bool} {X Y : World} (H : FoSt w g ga h o zs zd secs data next ok X) (hk : Kp q3 X o Y o') {x : CX} {xs : List Int} (hx : XM o x.2 xs X) : KC w.heap.size (w.heap.size + 6) (w.heap.size + 5) x X Y := by
 have hsz := H.sz
 have e : ∀ k, k < w.heap.size + 8 → o k = 0 ∨ o k = 4 → Y.heap[k]? = X.heap[k]? := fun k hk' ho => (hk.block k (by omega) (by rcases ho with ho | ho <;> rw [ho] <;> decide)).2
 refine ⟨⟨hk.os, hk.tape, hk.output, hk.size, fun k hk' => e k (by omega) (.inl (by rw [H.ob k (by omega), if_pos hk']))⟩, e _ (by omega) (.inr ?_), e _ (by omega) (.inr ?_), fun d cs t f hd hc => ?_⟩
 · rw [H.ob _ (by omega), if_neg (by omega), if_neg (by omega)]
 · rw [H.ob _ (by omega), if_neg (by omega), if_neg (by omega)]
 ·
  rw [(hk.block d.block (C_lt hx.1 (by decide) d hd (by decide)) (by rw [hx.2 d hd]; decide)).2]
  exact hc
theorem FoSt.box {w : World} {g ga : Nat} {h : HD} {o : Nat → Nat} {zs zd : Sl} {secs data : List Int} {next : Int} {ok : Bool} {X : World} (H : FoSt w g ga h o zs zd secs data next ok X) (i : Nat) (hi : 1 ≤ i ∧ i ≤ 4) (v : Value) : Kp q3 X o (X.setCell ⟨w.heap.size + i, 0, none⟩ v) o :=
  (Kp.refl _ X o).set _ _ (fun k hk hn e => hn (by rw [e, H.ob _ (by show w.heap.size + i < _; omega), if_neg (by show ¬ w.heap.size + i < w.heap.size; omega), if_pos (by show w.heap.size < w.heap.size + i ∧ w.heap.size + i < w.heap.size + 5; omega)]; exact .inr (.inr rfl)))
theorem FoSt.push1 {w : World} {g ga : Nat} {h : HD} {o o' : Nat → Nat} {zs zd zs' : Sl} {secs data secs' : List Int} {next : Int} {ok : Bool} {X Z : World} (H : FoSt w g ga h o zs zd secs data next ok X) (h1 : Ow i64K 3 Z o' 1 zs' secs') (hk : Kp (fun q => q = 1) X o Z o') :
  FoSt w g ga h o' zs' zd secs' data next ok (Z.setCell ⟨w.heap.size + 1, 0, none⟩ (.slice zs'.A zs'.n zs'.c)) ∧ Kp q3 X o (Z.setCell ⟨w.heap.size + 1, 0, none⟩ (.slice zs'.A zs'.n zs'.c)) o' := by
 have hsz := H.sz
 have ho : ∀ k, k < w.heap.size + 8 → o' k = (if k < w.heap.size then 0 else if w.heap.size < k ∧ k < w.heap.size + 5 then 3 else 4) ∧ Z.heap[k]? = X.heap[k]? := fun k hk' => by
  have := hk.block k (by omega) (by rw [H.ob k hk']; split <;> (try split) <;> decide)
  exact ⟨this.1.trans (H.ob k hk'), this.2⟩
 have hb : ∀ (k : Nat) (cs : Array Value) (t : TypeId), k < w.heap.size + 8 → k ≠ w.heap.size + 1 → Blk X k cs t → Blk (Z.setCell ⟨w.heap.size + 1, 0, none⟩ (.slice zs'.A zs'.n zs'.c)) k cs t := fun k cs t h1 h2 h3 => Blk.other ((ho k h1).2.trans h3) h2 _
 have hk2 : Kp q3 Z o' (Z.setCell ⟨w.heap.size + 1, 0, none⟩ (.slice zs'.A zs'.n zs'.c)) o' := (Kp.refl _ Z o').set _ _ (fun k hk hn e => hn (by rw [e, (ho (w.heap.size + 1) (by omega)).1, if_neg (by omega), if_pos (by omega)]; exact .inr (.inr rfl)))
 have hk3 : Kp (fun q => q = 3) Z o' (Z.setCell ⟨w.heap.size + 1, 0, none⟩ (.slice zs'.A zs'.n zs'.c)) o' := (Kp.refl _ Z o').set _ _ (fun k hk hn e => hn (by rw [e, (ho (w.heap.size + 1) (by omega)).1, if_neg (by omega), if_pos (by omega)]))
 refine ⟨⟨?_, hb _ _ _ (by omega) (by omega) H.bh, ?_, hb _ _ _ (by omega) (by omega) H.bd, hb _ _ _ (by omega) (by omega) H.bk, hb _ _ _ (by omega) (by omega) H.bn, hb _ _ _ (by omega) (by omega) H.bb, hb _ _ _ (by omega) (by omega) H.bar, h1.keep hk3 (by decide), (H.od.keep hk (by decide)).keep hk3 (by decide), fun k hk' => (ho k hk').1, ?_⟩, (hk.mono (fun q hq => .inl hq)).trans hk2⟩
 ·
  have hz : Below w.heap.size X Z := ⟨hk.os, hk.tape, hk.output, hk.size, fun k hk' => (ho k (by omega)).2⟩
  exact (H.bl.trans hz).setCell (p := ⟨w.heap.size + 1, 0, none⟩) (by show w.heap.size ≤ w.heap.size + 1; omega) _
 · exact Blk.set (i := 0) ((ho (w.heap.size + 1) (by omega)).2.trans H.bs) _
 ·
  simp only [World.setCell, Array.size_modify]
  exact Nat.le_trans hsz hk.size
theorem FoSt.push2 {w : World} {g ga : Nat} {h : HD} {o o' : Nat → Nat} {zs zd zd' : Sl} {secs data data' : List Int} {next : Int} {ok : Bool} {X Z : World} (H : FoSt w g ga h o zs zd secs data next ok X) (h1 : Ow u8K 5 Z o' 2 zd' data') (hk : Kp (fun q => q = 2) X o Z o') :
  FoSt w g ga h o' zs zd' secs data' next ok (Z.setCell ⟨w.heap.size + 2, 0, none⟩ (.slice zd'.A zd'.n zd'.c)) ∧ Kp q3 X o (Z.setCell ⟨w.heap.size + 2, 0, none⟩ (.slice zd'.A zd'.n zd'.c)) o' := by
 have hsz := H.sz
 have ho : ∀ k, k < w.heap.size + 8 → o' k = (if k < w.heap.size then 0 else if w.heap.size < k ∧ k < w.heap.size + 5 then 3 else 4) ∧ Z.heap[k]? = X.heap[k]? := fun k hk' => by
  have := hk.block k (by omega) (by rw [H.ob k hk']; split <;> (try split) <;> decide)
  exact ⟨this.1.trans (H.ob k hk'), this.2⟩
 have hb : ∀ (k : Nat) (cs : Array Value) (t : TypeId), k < w.heap.size + 8 → k ≠ w.heap.size + 2 → Blk X k cs t → Blk (Z.setCell ⟨w.heap.size + 2, 0, none⟩ (.slice zd'.A zd'.n zd'.c)) k cs t := fun k cs t h1 h2 h3 => Blk.other ((ho k h1).2.trans h3) h2 _
 have hk2 : Kp q3 Z o' (Z.setCell ⟨w.heap.size + 2, 0, none⟩ (.slice zd'.A zd'.n zd'.c)) o' := (Kp.refl _ Z o').set _ _ (fun k hk hn e => hn (by rw [e, (ho (w.heap.size + 2) (by omega)).1, if_neg (by omega), if_pos (by omega)]; exact .inr (.inr rfl)))
 have hk3 : Kp (fun q => q = 3) Z o' (Z.setCell ⟨w.heap.size + 2, 0, none⟩ (.slice zd'.A zd'.n zd'.c)) o' := (Kp.refl _ Z o').set _ _ (fun k hk hn e => hn (by rw [e, (ho (w.heap.size + 2) (by omega)).1, if_neg (by omega), if_pos (by omega)]))
 refine ⟨⟨?_, hb _ _ _ (by omega) (by omega) H.bh, hb _ _ _ (by omega) (by omega) H.bs, ?_, hb _ _ _ (by omega) (by omega) H.bk, hb _ _ _ (by omega) (by omega) H.bn, hb _ _ _ (by omega) (by omega) H.bb, hb _ _ _ (by omega) (by omega) H.bar, (H.os.keep hk (by decide)).keep hk3 (by decide), h1.keep hk3 (by decide), fun k hk' => (ho k hk').1, ?_⟩, (hk.mono (fun q hq => .inr (.inl hq))).trans hk2⟩
 ·
  have hz : Below w.heap.size X Z := ⟨hk.os, hk.tape, hk.output, hk.size, fun k hk' => (ho k (by omega)).2⟩
  exact (H.bl.trans hz).setCell (p := ⟨w.heap.size + 2, 0, none⟩) (by show w.heap.size ≤ w.heap.size + 2; omega) _
 · exact Blk.set (i := 0) ((ho (w.heap.size + 2) (by omega)).2.trans H.bd) _
 ·
  simp only [World.setCell, Array.size_modify]
  exact Nat.le_trans hsz hk.size
theorem FoSt.setN {w : World} {g ga : Nat} {h : HD} {o : Nat → Nat} {zs zd : Sl} {secs data : List Int} {next : Int} {ok : Bool} {X : World} (H : FoSt w g ga h o zs zd secs data next ok X) (v : Int) :
  FoSt w g ga h o zs zd secs data v ok (X.setCell ⟨w.heap.size + 4, 0, none⟩ (.int .i64 v)) ∧ Kp q3 X o (X.setCell ⟨w.heap.size + 4, 0, none⟩ (.int .i64 v)) o := by
 have hsz := H.sz
 have hk := H.box 4 (by omega) (.int .i64 v)
 have hk3 : Kp (fun q => q = 3) X o (X.setCell ⟨w.heap.size + 4, 0, none⟩ (.int .i64 v)) o := (Kp.refl _ X o).set _ _ (fun k hk hn e => hn (by rw [e, H.ob (w.heap.size + 4) (by omega), if_neg (by omega), if_pos (by omega)]))
 have hb : ∀ (k : Nat) (cs : Array Value) (t : TypeId), k ≠ w.heap.size + 4 → Blk X k cs t → Blk (X.setCell ⟨w.heap.size + 4, 0, none⟩ (.int .i64 v)) k cs t := fun k cs t h2 h3 => Blk.other h3 h2 _
 exact ⟨⟨H.bl.setCell (p := ⟨w.heap.size + 4, 0, none⟩) (by show w.heap.size ≤ w.heap.size + 4; omega) _, hb _ _ _ (by omega) H.bh, hb _ _ _ (by omega) H.bs, hb _ _ _ (by omega) H.bd, hb _ _ _ (by omega) H.bk, Blk.set (i := 0) H.bn _, hb _ _ _ (by omega) H.bb, hb _ _ _ (by omega) H.bar, H.os.keep hk3 (by decide), H.od.keep hk3 (by decide), H.ob, by simp only [World.setCell, Array.size_modify]; exact hsz⟩, hk⟩
def FoI (b : BS) (a : AR) (w : World) (g ga : Nat) (h : HD) (pre : List CX) (W : World) : Prop := ∃ (o : Nat → Nat) (zs zd : Sl) (secs data : List Int), fol b a h.size [] [] (pre.map (·.1)) = some (secs, data) ∧ Ch b a h.first (pre.map (·.1)) ∧ FoSt w g ga h o zs zd secs data (ends b a h.first (pre.map (·.1))) false W
def FoX (b : BS) (a : AR) (w : World) (h : HD) (c : Code) (pre : List CX) (W : World) : Prop := c = .ret ∧ (∃ pre0 x secs data, pre = pre0 ++ [x] ∧ fol b a h.size [] [] (pre0.map (·.1)) = some (secs, data) ∧ folBad b a h.size secs data x.1 = true) ∧
  (Blk W (w.heap.size + 1) #[.slice none 0 0] 53 ∧ Blk W (w.heap.size + 2) #[.slice none 0 0] 43 ∧ Blk W (w.heap.size + 3) #[.bool false] 4) ∧ Below w.heap.size w W
def foA (p g : Nat) (ga : Nat → Nat) (i : Nat) (x1 : Int) (x2 : ByteArray) (x3 x4 x5 x6 : Int) (x : CX) : Act := { tmps := #[pt g, pt (ga i), .agg #[.int .i64 x1, .string x2, .int .u32 x3, .int .i64 x4, .int .u32 x5, .int .i64 x6], undef, undef, .pointer (some ⟨p, 0, none⟩), .pointer (some ⟨p + 1, 0, none⟩), .pointer (some ⟨p + 2, 0, none⟩), .pointer (some ⟨p + 3, 0, none⟩), .pointer (some ⟨p + 4, 0, none⟩), .int .i64 x.1, .slice x.2 512 512, undef, .pointer (some ⟨p, 5, none⟩), .int .i64 x6, pt g, pt (ga i), .agg #[.int .i64 x1, .string x2, .int .u32 x3, .int .i64 x4, .int .u32 x5, .int .i64 x6], .func (.func 143) #[] #[.pointer (some ⟨p + 7, 0, none⟩), .pointer (some ⟨p + 6, 0, none⟩), .pointer (some ⟨p + 5, 0, none⟩)], .int .i64 x.1, .slice x.2 512 512, undef, undef, undef, undef, undef, undef, undef, undef, undef, undef, undef, undef, undef, undef, undef, undef, undef, undef, undef, undef, undef, undef, undef, undef, undef, undef, undef, undef, undef, undef, undef, undef, undef, undef, undef, undef, undef, undef, undef, undef, undef, undef, undef, undef, undef, undef, undef, undef, undef, undef], defers := [] }
def FoA (b : BS) (a : AR) (w : World) (g : Nat) (ga : Nat → Nat) (i : Nat) (h : HD) (pre : List CX) (x : CX) (a' : Act) (W : World) : Prop := ∃ (o : Nat → Nat) (zs zd : Sl) (secs data : List Int), fol b a h.size [] [] (pre.map (·.1)) = some (secs, data) ∧ Ch b a h.first (pre.map (·.1)) ∧ FoSt w g (ga i) h o zs zd secs data (ends b a h.first (pre.map (·.1))) false W ∧ XM o x.2 (sect b a x.1) W ∧ a' = foA w.heap.size g ga i h.ten h.name h.ver h.size h.sum h.first x
theorem FoSt.drew {w : World} {g ga : Nat} {h : HD} {o : Nat → Nat} {zs zd : Sl} {secs data : List Int} {next : Int} {ok : Bool} {X : World} (H : FoSt w g ga h o zs zd secs data next ok X) : FoSt w g ga h o zs zd secs data next ok X.drew :=
  ⟨⟨H.bl.os, H.bl.tape, H.bl.output, H.bl.size, H.bl.block⟩, H.bh, H.bs, H.bd, H.bk, H.bn, H.bb, H.bar, H.os, H.od, H.ob, H.sz⟩
theorem keepsDrew (W : World) : KeepsOthers W W.drew := ⟨Nat.le_refl _, fun _ _ h _ => h⟩
theorem ba_cell {w : World} {d : Addr} {n : Nat} {xs : List Int} (h : BytesAt w (some d) n xs) (j : Nat) (y : Int) (hj : xs[j]? = some y) : w.cell? (d.add j) = some (.int .u8 y) := by
 obtain ⟨ad, e, hc⟩ := sc_at h j (by have := (List.getElem?_eq_some_iff.1 hj).1; rw [h.1] at this; exact this) y hj
 injection e with e
 rw [e]
 exact hc
theorem FoSt.fin {w : World} {g ga : Nat} {h : HD} {o : Nat → Nat} {zs zd : Sl} {secs data : List Int} {next : Int} {ok : Bool} {X : World} (H : FoSt w g ga h o zs zd secs data next ok X) (r : Bool) (D : Nat) (hD : w.heap.size + 8 ≤ D) (hK : X.heap[D]? = some (.deferred (some []))) :
  ∃ Y, Y = ((X.setCell ⟨w.heap.size + 1, 0, none⟩ (.slice zs.A zs.n zs.c)).setCell ⟨w.heap.size + 2, 0, none⟩ (.slice zd.A zd.n zd.c)).setCell ⟨w.heap.size + 3, 0, none⟩ (.bool r) ∧ Y.heap[D]? = some (.deferred (some [])) ∧
   (Y.putObj D (.deferred none)).cell? ⟨w.heap.size + 1, 0, none⟩ = some (.slice zs.A zs.n zs.c) ∧ (Y.putObj D (.deferred none)).cell? ⟨w.heap.size + 2, 0, none⟩ = some (.slice zd.A zd.n zd.c) ∧ (Y.putObj D (.deferred none)).cell? ⟨w.heap.size + 3, 0, none⟩ = some (.bool r) ∧
   FollowP w secs data r (.returned (.tuple #[.slice zs.A zs.n zs.c, .slice zd.A zd.n zd.c, .bool r])) (Y.putObj D (.deferred none)) := by
 have hsz := H.sz
 refine ⟨_, rfl, ?_⟩
 have k1 := H.box 1 (by omega) (.slice zs.A zs.n zs.c)
 have kk : ∀ (i : Nat) (hi : 1 ≤ i ∧ i ≤ 4) (v : Value) (X' : World), Kp q3 X o X' o → Kp q3 X o (X'.setCell ⟨w.heap.size + i, 0, none⟩ v) o := fun i hi v X' hk =>
  hk.set _ _ (fun k hk1 hn e => hn (by rw [e, H.ob _ (by show w.heap.size + i < _; omega), if_neg (by show ¬ w.heap.size + i < w.heap.size; omega), if_pos (by show w.heap.size < w.heap.size + i ∧ w.heap.size + i < w.heap.size + 5; omega)]; exact .inr (.inr rfl)))
 have kk3 : ∀ (i : Nat) (hi : 1 ≤ i ∧ i ≤ 4) (v : Value) (X' : World), Kp (fun q => q = 3) X o X' o → Kp (fun q => q = 3) X o (X'.setCell ⟨w.heap.size + i, 0, none⟩ v) o := fun i hi v X' hk =>
  hk.set _ _ (fun k hk1 hn e => hn (by rw [e, H.ob _ (by show w.heap.size + i < _; omega), if_neg (by show ¬ w.heap.size + i < w.heap.size; omega), if_pos (by show w.heap.size < w.heap.size + i ∧ w.heap.size + i < w.heap.size + 5; omega)]))
 have hk := kk3 3 (by omega) (.bool r) _ (kk3 2 (by omega) (.slice zd.A zd.n zd.c) _ (kk3 1 (by omega) (.slice zs.A zs.n zs.c) X (Kp.refl _ X o)))
 have hb : Below w.heap.size X (((X.setCell ⟨w.heap.size + 1, 0, none⟩ (.slice zs.A zs.n zs.c)).setCell ⟨w.heap.size + 2, 0, none⟩ (.slice zd.A zd.n zd.c)).setCell ⟨w.heap.size + 3, 0, none⟩ (.bool r)) :=
  (((Below.refl w.heap.size X).setCell (p := ⟨w.heap.size + 1, 0, none⟩) (by show w.heap.size ≤ w.heap.size + 1; omega) _).setCell (p := ⟨w.heap.size + 2, 0, none⟩) (by show w.heap.size ≤ w.heap.size + 2; omega) _).setCell (p := ⟨w.heap.size + 3, 0, none⟩) (by show w.heap.size ≤ w.heap.size + 3; omega) _
 have hko := ((KeepsOthers.setCell X ⟨w.heap.size + 1, 0, none⟩ (.slice zs.A zs.n zs.c)).trans (KeepsOthers.setCell _ ⟨w.heap.size + 2, 0, none⟩ (.slice zd.A zd.n zd.c))).trans (KeepsOthers.setCell _ ⟨w.heap.size + 3, 0, none⟩ (.bool r))
 have b1 : Blk (((X.setCell ⟨w.heap.size + 1, 0, none⟩ (.slice zs.A zs.n zs.c)).setCell ⟨w.heap.size + 2, 0, none⟩ (.slice zd.A zd.n zd.c)).setCell ⟨w.heap.size + 3, 0, none⟩ (.bool r)) (w.heap.size + 1) #[.slice zs.A zs.n zs.c] 53 :=
  Blk.other (Blk.other (Blk.set (i := 0) H.bs _) (by show w.heap.size + 1 ≠ w.heap.size + 2; omega) _) (by show w.heap.size + 1 ≠ w.heap.size + 3; omega) _
 have b2 : Blk (((X.setCell ⟨w.heap.size + 1, 0, none⟩ (.slice zs.A zs.n zs.c)).setCell ⟨w.heap.size + 2, 0, none⟩ (.slice zd.A zd.n zd.c)).setCell ⟨w.heap.size + 3, 0, none⟩ (.bool r)) (w.heap.size + 2) #[.slice zd.A zd.n zd.c] 43 :=
  Blk.other (Blk.set (i := 0) (Blk.other H.bd (by show w.heap.size + 2 ≠ w.heap.size + 1; omega) _) _) (by show w.heap.size + 2 ≠ w.heap.size + 3; omega) _
 have b3 : Blk (((X.setCell ⟨w.heap.size + 1, 0, none⟩ (.slice zs.A zs.n zs.c)).setCell ⟨w.heap.size + 2, 0, none⟩ (.slice zd.A zd.n zd.c)).setCell ⟨w.heap.size + 3, 0, none⟩ (.bool r)) (w.heap.size + 3) #[.bool r] 4 :=
  Blk.set (i := 0) (Blk.other (Blk.other H.bk (by show w.heap.size + 3 ≠ w.heap.size + 1; omega) _) (by show w.heap.size + 3 ≠ w.heap.size + 2; omega) _) _
 have hY := hko.same D _ hK rfl
 generalize (((X.setCell ⟨w.heap.size + 1, 0, none⟩ (.slice zs.A zs.n zs.c)).setCell ⟨w.heap.size + 2, 0, none⟩ (.slice zd.A zd.n zd.c)).setCell ⟨w.heap.size + 3, 0, none⟩ (.bool r)) = Y at *
 have hg : Y.grownBy (Y.putObj D (.deferred none)) (some D) := grownBy_putObj' Y D (.deferred none)
 have hp : ∀ (k : Nat) (cs : Array Value) (t : TypeId), Blk Y k cs t → Blk (Y.putObj D (.deferred none)) k cs t := fun k cs t h => (World.putObj_heap_other (fun e => by subst e; rw [show Y.heap[k]? = _ from h] at hY; cases hY)).trans h
 refine ⟨hY, Blk.cell (i := 0) (hp _ _ _ b1) rfl, Blk.cell (i := 0) (hp _ _ _ b2) rfl, Blk.cell (i := 0) (hp _ _ _ b3) rfl, zs, zd, o, rfl, ow_grown (H.os.keep hk (by decide)) hg (fun r e => by cases e; exact ⟨_, hY, rfl⟩), ow_grown (H.od.keep hk (by decide)) hg (fun r e => by cases e; exact ⟨_, hY, rfl⟩), fun k hk' => by rw [H.ob k (by omega), if_pos hk'], ?_⟩
 exact (H.bl.trans hb).trans ⟨rfl, rfl, rfl, by simp [World.putObj], fun k hk => World.putObj_heap_other (by omega)⟩
theorem fiS {p : Nat} {zs zd : Sl} {en x4 x5 : Int} {W : World} (h : W.cell? ⟨p + 1, 0, none⟩ = some (.slice zs.A zs.n zs.c) ∧ W.cell? ⟨p + 2, 0, none⟩ = some (.slice zd.A zd.n zd.c) ∧ W.cell? ⟨p + 4, 0, none⟩ = some (.int .i64 en) ∧ W.cell? ⟨p, 3, none⟩ = some (.int .i64 x4) ∧ W.cell? ⟨p, 4, none⟩ = some (.int .u32 x5))
  (k : Nat) (v : Value) (hk : (k = 1 ∧ v = .slice zs.A zs.n zs.c) ∨ (k = 2 ∧ v = .slice zd.A zd.n zd.c) ∨ k = 3) :
  (W.setCell ⟨p + k, 0, none⟩ v).cell? ⟨p + 1, 0, none⟩ = some (.slice zs.A zs.n zs.c) ∧ (W.setCell ⟨p + k, 0, none⟩ v).cell? ⟨p + 2, 0, none⟩ = some (.slice zd.A zd.n zd.c) ∧ (W.setCell ⟨p + k, 0, none⟩ v).cell? ⟨p + 4, 0, none⟩ = some (.int .i64 en) ∧ (W.setCell ⟨p + k, 0, none⟩ v).cell? ⟨p, 3, none⟩ = some (.int .i64 x4) ∧ (W.setCell ⟨p + k, 0, none⟩ v).cell? ⟨p, 4, none⟩ = some (.int .u32 x5) := by
 obtain ⟨h1, h2, h3, h4, h5⟩ := h
 have oth : ∀ (b o : Nat) (u : Value), W.cell? ⟨b, o, none⟩ = some u → b ≠ p + k → (W.setCell ⟨p + k, 0, none⟩ v).cell? ⟨b, o, none⟩ = some u := fun b o u hc hb => (World.cell?_setCell_other W ⟨p + k, 0, none⟩ ⟨b, o, none⟩ v (fun e => hb (by injection e with e1; exact e1.symm))).trans hc
 refine ⟨?_, ?_, oth _ _ _ h3 (by omega), oth _ _ _ h4 (by omega), oth _ _ _ h5 (by omega)⟩
 ·
  rcases hk with ⟨rfl, rfl⟩ | ⟨rfl, rfl⟩ | rfl
  · exact World.cell?_setCell_same' _ _ _ (by rw [h1]; rfl)
  · exact oth _ _ _ h1 (by omega)
  · exact oth _ _ _ h1 (by omega)
 ·
  rcases hk with ⟨rfl, rfl⟩ | ⟨rfl, rfl⟩ | rfl
  · exact oth _ _ _ h2 (by omega)
  · exact World.cell?_setCell_same' _ _ _ (by rw [h2]; rfl)
  · exact oth _ _ _ h2 (by omega)
theorem FoSt.bad {w : World} {g ga : Nat} {h : HD} {o : Nat → Nat} {zs zd : Sl} {secs data : List Int} {next : Int} {ok : Bool} {X : World} (H : FoSt w g ga h o zs zd secs data next ok X) :
    (Blk (((X.setCell ⟨w.heap.size + 1, 0, none⟩ (.slice none 0 0)).setCell ⟨w.heap.size + 2, 0, none⟩ (.slice none 0 0)).setCell ⟨w.heap.size + 3, 0, none⟩ (.bool false)) (w.heap.size + 1) #[.slice none 0 0] 53 ∧
     Blk (((X.setCell ⟨w.heap.size + 1, 0, none⟩ (.slice none 0 0)).setCell ⟨w.heap.size + 2, 0, none⟩ (.slice none 0 0)).setCell ⟨w.heap.size + 3, 0, none⟩ (.bool false)) (w.heap.size + 2) #[.slice none 0 0] 43 ∧
     Blk (((X.setCell ⟨w.heap.size + 1, 0, none⟩ (.slice none 0 0)).setCell ⟨w.heap.size + 2, 0, none⟩ (.slice none 0 0)).setCell ⟨w.heap.size + 3, 0, none⟩ (.bool false)) (w.heap.size + 3) #[.bool false] 4) ∧
    Below w.heap.size w (((X.setCell ⟨w.heap.size + 1, 0, none⟩ (.slice none 0 0)).setCell ⟨w.heap.size + 2, 0, none⟩ (.slice none 0 0)).setCell ⟨w.heap.size + 3, 0, none⟩ (.bool false)) := by
  refine ⟨⟨?_, ?_, ?_⟩, ?_⟩
  · exact Blk.other (Blk.other (Blk.set (i := 0) H.bs _) (by show w.heap.size + 1 ≠ w.heap.size + 2; omega) _) (by show w.heap.size + 1 ≠ w.heap.size + 3; omega) _
  · exact Blk.other (Blk.set (i := 0) (Blk.other H.bd (by show w.heap.size + 2 ≠ w.heap.size + 1; omega) _) _) (by show w.heap.size + 2 ≠ w.heap.size + 3; omega) _
  · exact Blk.set (i := 0) (Blk.other (Blk.other H.bk (by show w.heap.size + 3 ≠ w.heap.size + 1; omega) _) (by show w.heap.size + 3 ≠ w.heap.size + 2; omega) _) _
  · exact ((H.bl.setCell (p := ⟨w.heap.size + 1, 0, none⟩) (by show w.heap.size ≤ w.heap.size + 1; omega) _).setCell (p := ⟨w.heap.size + 2, 0, none⟩) (by show w.heap.size ≤ w.heap.size + 2; omega) _).setCell (p := ⟨w.heap.size + 3, 0, none⟩) (by show w.heap.size ≤ w.heap.size + 3; omega) _
theorem foI_own {b : BS} {a : AR} {w : World} {g ga : Nat} {h : HD} {B : Nat} (hB : w.heap.size + 8 ≤ B) : OwnFrom B (FoI b a w g ga h) := fun pre X Y row hs hg hr => by
 obtain ⟨o, zs, zd, secs, data, h1, h2, h3⟩ := hs
 exact ⟨o, zs, zd, secs, data, h1, h2, h3.grown hg (fun r e => ⟨by have := (hr r e).1; omega, (hr r e).2⟩)⟩
theorem foA_own {b : BS} {a : AR} {w : World} {g : Nat} {ga : Nat → Nat} {i : Nat} {h : HD} {B : Nat} (hB : w.heap.size + 8 ≤ B) (pre : List CX) (x : CX) (a' : Act) : OwnFrom B (fun (_ : Unit) W => FoA b a w g ga i h pre x a' W) := fun _ X Y row hs hg hr => by
 obtain ⟨o, zs, zd, secs, data, h1, h2, h3, h4, h5⟩ := hs
 exact ⟨o, zs, zd, secs, data, h1, h2, h3.grown hg (fun r e => ⟨by have := (hr r e).1; omega, (hr r e).2⟩), ⟨rd_grown h4.1 hg (fun r e => (hr r e).2), h4.2⟩, h5⟩
theorem foX_own {b : BS} {a : AR} {w : World} {h : HD} {B : Nat} (hB : w.heap.size + 8 ≤ B) (c : Code) : OwnFrom B (FoX b a w h c) := fun pre X Y row hs hg hr => by
 obtain ⟨h1, h2, ⟨h3, h4, h5⟩, h6⟩ := hs
 have hb : ∀ (k : Nat) (cs : Array Value) (t : TypeId), k < w.heap.size + 8 → Blk X k cs t → Blk Y k cs t := fun k cs t hk h =>
  (hg.block k (Blk.lt h) (fun e' => by have := (hr k e'.symm).1; omega)).trans h
 exact ⟨h1, h2, ⟨hb _ _ _ (by omega) h3, hb _ _ _ (by omega) h4, hb _ _ _ (by omega) h5⟩, ⟨hg.os.trans h6.os, hg.tape.trans h6.tape, hg.output.trans h6.output, Nat.le_trans h6.size hg.size, fun k hk => (hg.block k (Nat.lt_of_lt_of_le hk h6.size) (fun e' => by have := (hr k e'.symm).1; omega)).trans (h6.block k hk)⟩⟩
theorem foI_len {b : BS} {a : AR} {w : World} {g ga : Nat} {h : HD} (pre : List CX) (W : World) (H : FoI b a w g ga h pre W) : pre.length ≤ a.sec := by
 obtain ⟨o, zs, zd, secs, data, h1, h2, h3⟩ := H
 have := fol_len h2 h1
 rwa [List.length_map] at this
theorem kc_put (n₀ ab sb : Nat) (x : CX) (W : World) (l : Nat) (o o' : Obj) (h1 : n₀ ≤ l) (h2 : ab < l) (h3 : sb < l) (hl : W.heap[l]? = some o) (ho : o.isCells = false) : KC n₀ ab sb x W (W.putObj l o') :=
  ⟨⟨rfl, rfl, rfl, by simp [World.putObj], fun k hk => World.putObj_heap_other (by omega)⟩, World.putObj_heap_other (by omega), World.putObj_heap_other (by omega), fun d cs t f _ hc => (World.putObj_heap_other (fun e => by rw [e, hl] at hc; cases hc; cases ho)).trans hc⟩
theorem run_append_ow {α : Type} {enc : α → Value} {h1 : ∀ x, (enc x).oneCell' = true} {W : World} (t ty e : TypeId) (z : Value) (bytes : Nat)
  (ht : Tryz.prog.underlying t = some (.slice e)) (hinfo : (Tryz.prog.info? e).map (fun i => (i.zero, i.size, i.bytes)) = some (some z, 1, bytes)) (hz : z.cells.size = 1)
  (v : Sl) (xs ys : List α) (own : Nat → Nat) (tg : Nat) (ad : Addr) (m c : Nat) (hm : ys.length = m) (hc : ∀ (j : Nat) (y : α), ys[j]? = some y → W.cell? (ad.add j) = some (enc y))
  (HO : Ow (Kd.scalar enc h1) e W own tg v xs) (hl : xs.length + m ≤ maxLen) (hl2 : (xs.length + m) * bytes ≤ 140737488355328) :
  ∃ (s1 : Sl) (w1 : World), (Builtin.append_ #[t, t] ty #[.slice v.A v.n v.c, .slice (some ad) m c]).run Tryz.prog W = .ok (.slice s1.A s1.n s1.c) w1 ∧ Ow (Kd.scalar enc h1) e w1 (tagged W own tg) tg s1 (xs ++ ys) ∧ KeepsOthers W w1 ∧ Kp (fun q => q = tg) W own w1 (tagged W own tg) := by
 subst hm
 obtain ⟨i0, hi, hzz⟩ := Option.map_eq_some_iff.1 hinfo
 simp only [Prod.mk.injEq] at hzz
 obtain ⟨hz0, hz1, hz2⟩ := hzz
 obtain ⟨v', w1, hr, ho1, hg, _, hat⟩ := run_append_own_at (P := Tryz.prog) W 0 t ty e i0 z 1 bytes ht hi hz0 hz1 hz2 hz (by decide) v.enc xs.length (encs enc xs) (Kd.own_of_R HO) ad ys.length c (encs enc ys) (by simp [encs]) (fun j u hu => by
  simp only [encs, List.getElem?_map] at hu
  obtain ⟨y, hy, rfl⟩ := Option.map_eq_some_iff.1 hu
  exact hc j y hy) (fun u hu => by
  obtain ⟨y, _, rfl⟩ := List.mem_map.1 hu
  exact h1 y) hl hl2 (Nat.zero_le _)
 have hown : w1.ownsRow 0 e 1 v' (xs ++ ys).length (encs enc (xs ++ ys)) := by
  rw [List.length_append]
  simpa [encs] using ho1
 have hR : (Kd.scalar enc h1).R e w1 0 (fun k => tagged W own tg k = tg) v' (xs ++ ys) := Kd.R_of_own hown (fun k hk => by
  rcases hat with hat | hat
  ·
   rw [hat] at hk
   rw [tagged_old (ow_blk HO k hk).2]
   exact (ow_blk HO k hk).1
  ·
   rw [hat] at hk
   have hkk : W.heap.size = k := Option.some.inj hk
   exact tagged_new (Nat.le_of_eq hkk))
 obtain ⟨s1, rfl, g1, g2⟩ := Ow.pushed HO (Below.refl _ _) hR hg
 unfold Sl.enc at hr
 exact ⟨s1, w1, hr, g1, KeepsOthers.of_grownBy hg (fun r ob e' ho => by
  obtain ⟨cs, hcs⟩ := Kd.R_typed HO r e'
  rw [hcs] at ho
  cases ho
  rfl), g2⟩
theorem run_app {W W' : World} {oi : Oper} {a : Act} (s x : Operand) (t ty : TypeId) {vs vx v : Value} (ho : oi.op = .call { callee := .builtin .append, args := #[s, x], argTypes := #[t, t] }) (hty : oi.type = ty) (hs : a.eval s = vs) (hx : a.eval x = vx) (h : (Builtin.append_ #[t, t] ty #[vs, vx]).run Tryz.prog W = .ok v W') : (execOp a.eval oi).run Tryz.prog W = .ok (.value v) W' := by
 subst hty
 simp [execOp, ho, resolve, invoke, builtin, hs, hx, h, Result.andThen]
theorem listIn_run {F : Fence} {n : Nat} {ops : Array Oper} {rest : List Oper} {o : Oper} {a : Act} {Q : Exit → Act → World → Prop} {W W1 : World} {v : Value} (s x : Operand) (t ty : TypeId) (hgd : o.guard = none) {vs vx : Value} (ho : o.op = .call { callee := .builtin .append, args := #[s, x], argTypes := #[t, t] }) (hty : o.type = ty) (hs : a.eval s = vs) (hx : a.eval x = vx)
  (h : (Builtin.append_ #[t, t] ty #[vs, vx]).run Tryz.prog W = .ok v W1) (hK : wpListIn F n Tryz.prog ops Q rest (a.put o.dst v) W1) : wpListIn F n Tryz.prog ops Q (o :: rest) a W := by
 refine wpListIn_plain hgd fun K hK' => ?_
 unfold Oper.wpIn
 refine ⟨?_, ?_⟩
 · simp [Oper.about, ho, resolve, Target.leads, Sem.run_pure]
 ·
  rw [Oper.semAt_plain F _ _ (by rw [ho]; intro c hc'; cases hc'), run_app s x t ty ho hty hs hx h]
  exact hK' _ _ hK
set_option maxRecDepth 100000 in
set_option maxHeartbeats 20000000 in
theorem follow_ok (w : World) (own : Nat → Nat) (t g gs : Nat) (ga : Nat → Nat) (S : SV) (i : Nat) (hi : i < 8) (H : ScM w own t g gs ga S i) (hS : BOk S.b) (ha : (S.ar i).frm + (S.ar i).sec ≤ S.b.n) (h : HD) (hh : h.ok) :
  Calls Tryz.prog 65 #[pt g, pt (ga i), h.enc] w (FollowP w (followS S.b (S.ar i) h).1 (followS S.b (S.ar i) h).2.1 (followS S.b (S.ar i) h).2.2) := by
 have HC := Lib.hid (fun W => chain_ok W g (ga i) h)
 have hw0 : h.enc = .agg h.cells := rfl
 obtain ⟨x1, x2, x3, x4, x5, x6⟩ := h
 unfold HD.enc at *
 refine (callsIn_wide (n := 3)).1 ?_
 refine callsIn_of_wp_marks Tryz.func65 rfl trivial ?_ rfl
 refine wpIn_wide.2 ?_
 refine wp_noP ?_
 simp only [Tryz.ntmps65, List.size_toArray, List.length_cons, List.length_nil, Nat.reduceAdd, Nat.reduceSub, Array.replicate_succ, Array.replicate_zero, List.push_toArray, List.append_toArray, List.nil_append, List.cons_append]
 go_wp2_with (go_at_call 102; refine (HC.out _).mono ?_; rintro e w' ⟨rfl, rfl⟩)
 rw [show ((((((((w.alloc (Obj.cells #[Value.int .i64 x1, Value.string x2, Value.int .u32 x3, Value.int .i64 x4, Value.int .u32 x5, Value.int .i64 x6] 105)).alloc (Obj.cells #[Value.slice none 0 0] 53)).alloc (Obj.cells #[Value.slice none 0 0] 43)).alloc (Obj.cells #[Value.bool false] 4)).alloc (Obj.cells #[Value.int .i64 x6] 3)).alloc (Obj.cells #[pt g] 29)).alloc (Obj.cells #[pt (ga i)] 90)).alloc (Obj.cells (HD.cells ⟨x1, x2, x3, x4, x5, x6⟩) 105)) = foW w g (ga i) ⟨x1, x2, x3, x4, x5, x6⟩ from rfl]
 obtain ⟨HS0, HB7⟩ := FoSt.start w g (ga i) ⟨x1, x2, x3, x4, x5, x6⟩
 have hsz := foW_size w g (ga i) ⟨x1, x2, x3, x4, x5, x6⟩
 generalize foW w g (ga i) ⟨x1, x2, x3, x4, x5, x6⟩ = WL at *
 simp only [Nat.add_assoc, Nat.reduceAdd]
 refine (wpIn_wide (n := 3)).1 ?_
 refine wpIn_rangeFunc_told (α := CX) rfl (by omega) (gf := 143) (lb := #[.pointer (some ⟨w.heap.size + 7, 0, none⟩), .pointer (some ⟨w.heap.size + 6, 0, none⟩), .pointer (some ⟨w.heap.size + 5, 0, none⟩)]) rfl trivial (enters_of Tryz.func143 (by kernel_rfl) rfl)
  (chain_told 2 (by omega) w own t g gs ga S i hi H hS ha x6 (w.heap.size + 7) (w.heap.size + 6) (w.heap.size + 5) (S.ar i).sec WL HS0.bl (Blk.cell (i := 5) HB7 rfl) HS0.bar HS0.bb) KC.trans (fun x W l o o' h1 h2 h3 h4 => kc_put _ _ _ x W l o o' (by omega) (by omega) (by omega) h2 h3) (Below.refl _ _) (fun _ => rfl)
  (FoI S.b (S.ar i) w g (ga i) ⟨x1, x2, x3, x4, x5, x6⟩) (FoX S.b (S.ar i) w ⟨x1, x2, x3, x4, x5, x6⟩) (foI_own (by omega)) (fun c => foX_own (by omega) c) foI_len ⟨_, nilS, nilS, [], [], rfl, trivial, HS0⟩ (FoA S.b (S.ar i) w g ga i ⟨x1, x2, x3, x4, x5, x6⟩) (fun pre x a' => foA_own (by omega) pre x a') ?assign ?body ?done ?stop
 case assign =>
  rintro l pre x W0 W K hI0 hB0 hI hG hK
  obtain ⟨o, zs, zd, secs, data, h1, h2, h3⟩ := hI0
  have HA : FoA S.b (S.ar i) w g ga i ⟨x1, x2, x3, x4, x5, x6⟩ pre x (foA w.heap.size g ga i x1 x2 x3 x4 x5 x6 x) W := ⟨_, zs, zd, secs, data, h1, h2, h3.below hB0, ⟨hG.1, fun d hd => tagged_new (hG.2 d hd)⟩, rfl⟩
  have HK := Lib.hid (hK (foA w.heap.size g ga i x1 x2 x3 x4 x5 x6 x) W (KeepsFrom.refl _ _) ⟨Below.refl _ _, rfl, rfl, fun _ _ _ _ _ h => h⟩ hI HA)
  clear hK hI hG h3 HA
  unfold foA at HK
  obtain ⟨y1, y2⟩ := x
  simp only [cArgs]
  gi_wp2
  exact HK.out
 case body =>
  rintro l pre x a' W hI ⟨o, zs, zd, secs, data, h1, h2, h3, h4, rfl⟩ hP
  unfold foA
  obtain ⟨y1, y2⟩ := x
  obtain ⟨hx1, hx2, hx3, hx4, hx5, hx6⟩ := hh
  dsimp only at *
  have e1 : W.cell? ⟨w.heap.size, 3, none⟩ = some (.int .i64 x4) := Blk.cell (i := 3) h3.bh rfl
  have e2 : W.cell? ⟨w.heap.size + 1, 0, none⟩ = some (.slice zs.A zs.n zs.c) := Blk.cell (i := 0) h3.bs rfl
  have e3 : W.cell? ⟨w.heap.size + 2, 0, none⟩ = some (.slice zd.A zd.n zd.c) := Blk.cell (i := 0) h3.bd rfl
  have e4 : W.cell? ⟨w.heap.size + 3, 0, none⟩ = some (.bool false) := Blk.cell (i := 0) h3.bk rfl
  have e5 : W.cell? ⟨w.heap.size + 4, 0, none⟩ = some (.int .i64 (ends S.b (S.ar i) x6 (pre.map (·.1)))) := Blk.cell (i := 0) h3.bn rfl
  have f2 : W.frozen? ⟨w.heap.size + 1, 0, none⟩ = false := Blk.frozen h3.bs
  have f3 : W.frozen? ⟨w.heap.size + 2, 0, none⟩ = false := Blk.frozen h3.bd
  have f4 : W.frozen? ⟨w.heap.size + 3, 0, none⟩ = false := Blk.frozen h3.bk
  have f5 : W.frozen? ⟨w.heap.size + 4, 0, none⟩ = false := Blk.frozen h3.bn
  obtain ⟨l1, l2, l3⟩ := ow_len h3.os
  obtain ⟨m1, m2, m3⟩ := ow_len h3.od
  have hin : inA (S.ar i) y1 = true := ch_mem hP y1 (by simp)
  obtain ⟨i1, i2, i3⟩ := (inA_iff _ _).1 hin
  obtain ⟨y, rfl⟩ := Int.eq_ofNat_of_zero_le (show 0 ≤ y1 by omega)
  have hk : (S.ar i).frm + y < S.b.n := by omega
  obtain ⟨r1, r2⟩ := hS.read hk
  obtain ⟨d, hd, _⟩ := BytesAt.at_ h4.1 0 (by decide)
  subst hd
  have hnb : S.b.n < 2 ^ 32 := by have := hS.fit.hz; unfold BS.n; omega
  have hsl : secs.length ≤ (S.ar i).sec := by
   have e := fol_secs _ _ _ _ _ _ _ _ h1
   have e' := fol_len h2 h1
   rw [e]
   simpa using e'
  have hdl : (data.length : Int) ≤ x4 := fol_size _ _ _ _ _ _ _ _ h1 (by simp; omega)
  have hzs : zs.n < 2 ^ 32 := by omega
  have hzd : (zd.n : Int) < 2 ^ 32 := by omega
  have hx40 : 0 ≤ x4 := hx4.1
  have hx41 : x4 < 2 ^ 32 := hx4.2
  have H1 := Lib.hid h1
  have H2 := Lib.hid h2
  have H3 := Lib.hid h3
  have H4 := Lib.hid h4
  have HP := Lib.hid hP
  have HM1 := Lib.hid m1
  have HL1 := Lib.hid l1
  have HR1 := Lib.hid r1
  have HR2 := Lib.hid r2
  have HBAD := Lib.hid H3.out.bad
  have HC94 := Lib.hid (contains_ok W zs.A zs.n zs.c secs l3 (by omega) (y : Int))
  clear h1 h2 h3 h4 hP m1 l1 r1 r2 m3 l3 hI hin
  by_cases hA : 510 ≤ x4 - (zd.n : Int)
  ·
   have hq : (510 : Int) ≤ x4 - (zd.n : Int) := hA
   have hpn : partN x4 data = (510 : Nat) := by unfold partN; rw [HM1.out]; omega
   cases hcon : secs.contains (y : Int)
   ·
    rw [hcon] at HC94
    have HC103 := Lib.hid (bcontains_ok W (some ⟨d.block, d.off + 510, none⟩) 0 2 (((sect S.b (S.ar i) (y : Int)).drop 510).take 0) (by exact cut_at H4.out.1 510 0 (by omega) (by omega)) (by omega))
    cases hany : (((sect S.b (S.ar i) (y : Int)).drop 510).take 0).any (· != 0)
    ·
     rw [hany] at HC103
     have HX := Lib.hid (show folBad S.b (S.ar i) x4 secs data (y : Int) = false by unfold folBad; rw [hpn, hcon]; simp only [Int.toNat_natCast]; rw [hany]; simp; try omega)
     have HN := Lib.hid (show folNext S.b (S.ar i) x4 data (y : Int) = data ++ (sect S.b (S.ar i) (y : Int)).take 510 by unfold folNext; rw [hpn]; rfl)
     clear hpn hcon hany
     have HS0 := Lib.hid (H3.out.below (ba (w := W) (.cells #[.int .i64 (y : Int)] 3)))
     have HX0 := Lib.hid (H4.out.keep (Kp.below (ts := fun _ => False) (own := o) (ba (w := W) (.cells #[.int .i64 (y : Int)] 3)) 0) (fun q => q))
     have HK0 := Lib.hid (Kp.below (ts := q3) (own := o) (ba (w := W) (.cells #[.int .i64 (y : Int)] 3)) 0)
     obtain ⟨s1, w1, hap, g1, g2, g3⟩ := run_append_ow (enc := Value.int .i64) (h1 := fun _ => rfl) (W := W.alloc (.cells #[.int .i64 (y : Int)] 3)) 53 53 3 (.int .i64 0) 8 Tryz.underlying53 info3 rfl zs secs [(y : Int)] (tagged W o 0) 1 ⟨W.heap.size, 0, none⟩ 1 1 rfl (fun j v hj => by cases j with | zero => (simp at hj; subst hj; exact Blk.cell (i := 0) (blkNew (w := W) rfl) rfl) | succ j => simp at hj) HS0.out.os (by unfold maxLen; omega) (by omega)
     obtain ⟨HS1, HK1⟩ := HS0.out.push1 g1 g3
     have HX1 := Lib.hid (HX0.out.keep HK1 (by decide))
     have b1 : w1.cell? ⟨w.heap.size + 1, 0, none⟩ = some (.slice zs.A zs.n zs.c) := Blk.cell (i := 0) (HS0.out.bs.keep g3 (by rw [HS0.out.ob _ (by omega), if_neg (by omega), if_pos (by omega)]; decide)).1 rfl
     have b1' : w1.frozen? ⟨w.heap.size + 1, 0, none⟩ = false := Blk.frozen (HS0.out.bs.keep g3 (by rw [HS0.out.ob _ (by omega), if_neg (by omega), if_pos (by omega)]; decide)).1
     have HT1 := Lib.hid HS1
     have HQ1 := Lib.hid (HK0.out.trans HK1)
     have HO1 := Lib.hid ((KeepsOthers.alloc W _).trans (g2.trans (KeepsOthers.setCell w1 ⟨w.heap.size + 1, 0, none⟩ (.slice s1.A s1.n s1.c))))
     clear HS1 HK1 g1 g2 g3 HS0 HX0 HK0 HBAD
     have c2 : (w1.setCell ⟨w.heap.size + 1, 0, none⟩ (.slice s1.A s1.n s1.c)).drew.cell? ⟨w.heap.size + 2, 0, none⟩ = some (.slice zd.A zd.n zd.c) := Blk.cell (i := 0) HT1.out.bd rfl
     gi_wp2_with (first | (refine ⟨trivial, ?_⟩; gi_at_call 94; refine (CallsIn.inRound l (callsIn_wide.2 HC94.out)).mono ?_; rintro e w' ⟨rfl, rfl⟩) | (refine ⟨trivial, ?_⟩; gi_at_call 103; refine (CallsIn.inRound l (callsIn_wide.2 HC103.out)).mono ?_; rintro e w' ⟨rfl, rfl⟩) | (gi_at_builtin; refine listIn_run (.tmp 40) (.tmp 42) 53 53 rfl rfl rfl rfl rfl hap ?_) | (refine startIn_ (nn := 6) (S := fun w' => w'.cell? ⟨w.heap.size + 2, 0, none⟩ = some (.slice zd.A zd.n zd.c)) (ds := [4, 5]) #[false, false, false, false, false, false] (by kernel_rfl) rfl rfl (by kernel_rfl) (by rintro ⟨aa, ww, hh⟩; exact hh) c2 (fun hHeld => sorry_mark ?_)))
     unfold Marked
     generalize hX1 : w1.setCell ⟨w.heap.size + 1, 0, none⟩ (.slice s1.A s1.n s1.c) = X1 at *
     have HF := Lib.hid HT1.out.drew
     have HXX := Lib.hid (show XM (tagged (W.alloc (.cells #[.int .i64 (y : Int)] 3)) (tagged W o 0) 1) (some d) (sect S.b (S.ar i) (y : Int)) X1.drew from HX1.out)
     obtain ⟨s2, w2, hap2, g1, g2, g3⟩ := run_append_ow (enc := Value.int .u8) (h1 := fun _ => rfl) (W := X1.drew) 43 43 5 (.int .u8 0) 1 Tryz.underlying43 info5 rfl zd data ((sect S.b (S.ar i) (y : Int)).take 510) _ 2 d 510 512 (by rw [List.length_take]; unfold sect; rw [Int.toNat_natCast, HR1.out]; omega) (fun j v hj => ba_cell (BytesAt.take HXX.out.1 510 (by omega)) j v hj) HF.out.od (by unfold maxLen; have := HM1.out; omega) (by have := HM1.out; omega)
     obtain ⟨HS2, HK2⟩ := HF.out.push2 g1 g3
     have b2 := HF.out.bd.keep g3 (by rw [HF.out.ob _ (by omega), if_neg (by omega), if_pos (by omega)]; decide)
     have c2a : w2.cell? ⟨w.heap.size + 2, 0, none⟩ = some (.slice zd.A zd.n zd.c) := Blk.cell (i := 0) b2.1 rfl
     have c2b : w2.frozen? ⟨w.heap.size + 2, 0, none⟩ = false := Blk.frozen b2.1
     have HT2 := Lib.hid HS2
     have HX2 := Lib.hid (HXX.out.keep HK2 (by decide))
     have HQ2 := Lib.hid (HQ1.out.drew.trans HK2)
     have HO2 := Lib.hid (HO1.out.trans ((keepsDrew X1).trans (g2.trans (KeepsOthers.setCell w2 ⟨w.heap.size + 2, 0, none⟩ (.slice s2.A s2.n s2.c)))))
     clear HS2 HK2 g1 g2 g3 b2 HT1 HX1 HQ1 HO1 hap c2 b1 b1'
     refine tk_ (i := 0) (N := some 44) (v := ?_) (a' := ?_) rfl rfl (by kernel_rfl) (fun _ _ _ h => h) (by rfl) ?_ hHeld ?_ ?_
     rotate_left
     ·
      intro w' s0
      have q1 := s0
      go_simp
      with_reducible rfl
     rotate_left
     · (simp only [put_s, List.set, i64_w, i32_w]; rfl)
     refine pu_ (i := 1) (N := some 45) (v := ?_) (a' := ?_) rfl rfl (by kernel_rfl) (fun _ _ _ h => h) (by rfl) ?_ ?_ ?_
     rotate_left
     · (intro w'; go_simp; with_reducible rfl)
     rotate_left
     · (simp only [put_s, List.set, i64_w, i32_w]; rfl)
     refine pu_ (i := 2) (N := some 46) (v := ?_) (a' := ?_) rfl rfl (by kernel_rfl) (fun _ _ _ h => h) (by rfl) ?_ ?_ ?_
     rotate_left
     · (intro w'; go_simp; with_reducible rfl)
     rotate_left
     · (simp only [put_s, List.set, i64_w, i32_w]; rfl)
     refine pu_ (i := 3) (N := some 47) (v := ?_) (a' := ?_) rfl rfl (by kernel_rfl) (fun _ _ _ h => h) (by rfl) ?_ ?_ ?_
     rotate_left
     · (intro w'; go_simp; with_reducible rfl)
     rotate_left
     · (simp only [put_s, List.set, i64_w, i32_w]; rfl)
     refine la_ (i := 4) (N := some 48) rfl rfl (by kernel_rfl) (by decide) (fun K hK => ?_)
     refine value_ (v := .slice s2.A s2.n s2.c) (w1 := w2) (by rfl) rfl (run_app (.tmp 44) (.tmp 47) 43 43 (by rfl) (by rfl) rfl rfl hap2) ?_
     refine hK.out _ _ ?_
     clear hK K
     refine norm_ (a' := ?_) ?_ ?_
     rotate_left
     ·
      show Act.put _ (some 48) _ = _
      simp only [put_s, List.set, i64_w, i32_w]
      rfl
     refine la_ (i := 5) (N := none) rfl rfl (by kernel_rfl) (by decide) (fun K hK => ?_)
     refine skip_ (w1 := w2.setCell ⟨w.heap.size + 2, 0, none⟩ (.slice s2.A s2.n s2.c)) (by rfl) rfl (by go_simp) ?_
     refine hK.out _ _ ?_
     clear hK K
     refine done_ (by kernel_rfl) ?_
     generalize hX2 : w2.setCell ⟨w.heap.size + 2, 0, none⟩ (.slice s2.A s2.n s2.c) = X2 at *
     clear hX1 hX2 c2a c2b hap2 hHeld
     have HGC := Lib.hid (get_ok X2 (some ⟨d.block, d.off + 510, none⟩) 2 2 ((sect S.b (S.ar i) (y : Int)).drop 510) (by
      have h := cut_at HX2.out.1 510 2 (by omega) (by omega)
      rwa [List.take_of_length_le (by rw [List.length_drop]; unfold sect; rw [Int.toNat_natCast, HR1.out]; decide)] at h) (fun v hv => HR2.out v (by unfold sect at hv; rw [Int.toNat_natCast] at hv; exact List.mem_of_mem_drop hv)) (by decide) (by decide))
     have hnx := hS.nxt (a := S.ar i) (n := (y : Int)) hk
     have hv : unle ((sect S.b (S.ar i) (y : Int)).drop 510) = nxt S.b (S.ar i) (y : Int) := rfl
     rw [hv] at HGC
     have HNX := Lib.hid hnx
     have HEN := Lib.hid (show ends S.b (S.ar i) x6 ((pre ++ [((y : Int), some d)]).map (·.1)) = nxt S.b (S.ar i) (y : Int) by rw [List.map_append]; exact ends_snoc _ _ _ _ _)
     have HSN := HT2.out.setN (nxt S.b (S.ar i) (y : Int))
     have HT3 := Lib.hid HSN.1
     have HQ3 := Lib.hid (HQ2.out.trans HSN.2)
     have HO3 := Lib.hid (HO2.out.trans (KeepsOthers.setCell X2 ⟨w.heap.size + 4, 0, none⟩ (.int .i64 (nxt S.b (S.ar i) (y : Int)))))
     have d1 : X2.cell? ⟨w.heap.size + 4, 0, none⟩ = some (.int .i64 (ends S.b (S.ar i) x6 (pre.map (·.1)))) := Blk.cell (i := 0) HT2.out.bn rfl
     have d2 : X2.frozen? ⟨w.heap.size + 4, 0, none⟩ = false := Blk.frozen HT2.out.bn
     clear hv HSN
     generalize nxt S.b (S.ar i) (y : Int) = nv at *
     gi_wp2_with (refine ⟨trivial, ?_⟩; gi_at_call 105; refine (CallsIn.inRound l (callsIn_wide.2 HGC.out)).mono ?_; rintro e w' ⟨rfl, rfl⟩)
     refine ⟨HO3.out.from _, H3.out.kc HQ3.out (x := ((y : Int), some d)) H4.out, ?_⟩
     refine ⟨_, s1, s2, _, _, ?_, HP.out, by rw [HEN.out]; exact HT3.out⟩
     rw [List.map_append]
     refine (fol_snoc S.b (S.ar i) x4 _ _ _ _ _ (y : Int) H1.out).trans ?_
     show (if folBad S.b (S.ar i) x4 secs data (y : Int) = true then none else some (secs ++ [(y : Int)], folNext S.b (S.ar i) x4 data (y : Int))) = _
     rw [HX.out, HN.out]
     rfl
    ·
     rw [hany] at HC103
     have HX := Lib.hid (show folBad S.b (S.ar i) x4 secs data (y : Int) = true by unfold folBad; rw [hpn, hcon]; simp only [Int.toNat_natCast]; rw [hany]; simp)
     clear hpn hcon hany
     gi_wp2_with (first | (refine ⟨trivial, ?_⟩; gi_at_call 94; refine (CallsIn.inRound l (callsIn_wide.2 HC94.out)).mono ?_; rintro e w' ⟨rfl, rfl⟩) | (refine ⟨trivial, ?_⟩; gi_at_call 103; refine (CallsIn.inRound l (callsIn_wide.2 HC103.out)).mono ?_; rintro e w' ⟨rfl, rfl⟩) | (refine ⟨trivial, ?_⟩))
     exact ⟨(((KeepsOthers.setCell _ _ _).trans (KeepsOthers.setCell _ _ _)).trans (KeepsOthers.setCell _ _ _)).from _, rfl, ⟨pre, _, secs, data, rfl, H1.out, HX.out⟩, HBAD.out.1, HBAD.out.2⟩
   ·
    rw [hcon] at HC94
    have HX := Lib.hid (show folBad S.b (S.ar i) x4 secs data (y : Int) = true by unfold folBad; rw [hcon]; simp)
    clear hpn hcon
    gi_wp2_with (first | (refine ⟨trivial, ?_⟩; gi_at_call 94; refine (CallsIn.inRound l (callsIn_wide.2 HC94.out)).mono ?_; rintro e w' ⟨rfl, rfl⟩) | (refine ⟨trivial, ?_⟩))
    exact ⟨(((KeepsOthers.setCell _ _ _).trans (KeepsOthers.setCell _ _ _)).trans (KeepsOthers.setCell _ _ _)).from _, rfl, ⟨pre, _, secs, data, rfl, H1.out, HX.out⟩, HBAD.out.1, HBAD.out.2⟩
  ·
   by_cases hB : x4 - (zd.n : Int) ≤ 0
   ·
    have HX := Lib.hid (show folBad S.b (S.ar i) x4 secs data (y : Int) = true by unfold folBad; rw [decide_eq_true (show partN x4 data ≤ 0 by unfold partN; rw [HM1.out]; omega)]; rfl)
    have hq : x4 - (zd.n : Int) < 510 := by omega
    gi_wp2_with (refine ⟨trivial, ?_⟩)
    exact ⟨(((KeepsOthers.setCell _ _ _).trans (KeepsOthers.setCell _ _ _)).trans (KeepsOthers.setCell _ _ _)).from _, rfl, ⟨pre, _, secs, data, rfl, H1.out, HX.out⟩, HBAD.out.1, HBAD.out.2⟩
   ·
    have hk2 : 0 < x4 - (zd.n : Int) := by omega
    have hk3 : x4 - (zd.n : Int) < 510 := by omega
    have hk4 : (zd.n : Int) ≤ x4 := by omega
    have hk5 : x4 - (zd.n : Int) ≤ 512 := by omega
    have hpn : partN x4 data = ((x4.toNat - zd.n) : Nat) := by unfold partN; rw [HM1.out]; omega
    cases hcon : secs.contains (y : Int)
    ·
     rw [hcon] at HC94
     have HC103 := Lib.hid (bcontains_ok W (some (d.add (x4.toNat - zd.n))) (510 - (x4.toNat - zd.n)) (512 - (x4.toNat - zd.n)) (((sect S.b (S.ar i) (y : Int)).drop (x4.toNat - zd.n)).take (510 - (x4.toNat - zd.n))) (by rw [show d.add (x4.toNat - zd.n) = ⟨d.block, d.off + (x4.toNat - zd.n), none⟩ from by unfold Addr.add; rw [if_neg (by omega)]]; exact cut_at H4.out.1 (x4.toNat - zd.n) (510 - (x4.toNat - zd.n)) (by omega) (by omega)) (by omega))
     cases hany : (((sect S.b (S.ar i) (y : Int)).drop (x4.toNat - zd.n)).take (510 - (x4.toNat - zd.n))).any (· != 0)
     ·
      rw [hany] at HC103
      have HX := Lib.hid (show folBad S.b (S.ar i) x4 secs data (y : Int) = false by unfold folBad; rw [hpn, hcon]; simp only [Int.toNat_natCast]; rw [hany]; simp; try omega)
      have HN := Lib.hid (show folNext S.b (S.ar i) x4 data (y : Int) = data ++ (sect S.b (S.ar i) (y : Int)).take (x4.toNat - zd.n) by unfold folNext; rw [hpn]; rfl)
      clear hpn hcon hany
      have HS0 := Lib.hid (H3.out.below (ba (w := W) (.cells #[.int .i64 (y : Int)] 3)))
      have HX0 := Lib.hid (H4.out.keep (Kp.below (ts := fun _ => False) (own := o) (ba (w := W) (.cells #[.int .i64 (y : Int)] 3)) 0) (fun q => q))
      have HK0 := Lib.hid (Kp.below (ts := q3) (own := o) (ba (w := W) (.cells #[.int .i64 (y : Int)] 3)) 0)
      obtain ⟨s1, w1, hap, g1, g2, g3⟩ := run_append_ow (enc := Value.int .i64) (h1 := fun _ => rfl) (W := W.alloc (.cells #[.int .i64 (y : Int)] 3)) 53 53 3 (.int .i64 0) 8 Tryz.underlying53 info3 rfl zs secs [(y : Int)] (tagged W o 0) 1 ⟨W.heap.size, 0, none⟩ 1 1 rfl (fun j v hj => by cases j with | zero => (simp at hj; subst hj; exact Blk.cell (i := 0) (blkNew (w := W) rfl) rfl) | succ j => simp at hj) HS0.out.os (by unfold maxLen; omega) (by omega)
      obtain ⟨HS1, HK1⟩ := HS0.out.push1 g1 g3
      have HX1 := Lib.hid (HX0.out.keep HK1 (by decide))
      have b1 : w1.cell? ⟨w.heap.size + 1, 0, none⟩ = some (.slice zs.A zs.n zs.c) := Blk.cell (i := 0) (HS0.out.bs.keep g3 (by rw [HS0.out.ob _ (by omega), if_neg (by omega), if_pos (by omega)]; decide)).1 rfl
      have b1' : w1.frozen? ⟨w.heap.size + 1, 0, none⟩ = false := Blk.frozen (HS0.out.bs.keep g3 (by rw [HS0.out.ob _ (by omega), if_neg (by omega), if_pos (by omega)]; decide)).1
      have HT1 := Lib.hid HS1
      have HQ1 := Lib.hid (HK0.out.trans HK1)
      have HO1 := Lib.hid ((KeepsOthers.alloc W _).trans (g2.trans (KeepsOthers.setCell w1 ⟨w.heap.size + 1, 0, none⟩ (.slice s1.A s1.n s1.c))))
      clear HS1 HK1 g1 g2 g3 HS0 HX0 HK0 HBAD
      have c2 : (w1.setCell ⟨w.heap.size + 1, 0, none⟩ (.slice s1.A s1.n s1.c)).drew.cell? ⟨w.heap.size + 2, 0, none⟩ = some (.slice zd.A zd.n zd.c) := Blk.cell (i := 0) HT1.out.bd rfl
      gi_wp2_with (first | (refine ⟨trivial, ?_⟩; gi_at_call 94; refine (CallsIn.inRound l (callsIn_wide.2 HC94.out)).mono ?_; rintro e w' ⟨rfl, rfl⟩) | (refine ⟨trivial, ?_⟩; gi_at_call 103; refine (CallsIn.inRound l (callsIn_wide.2 HC103.out)).mono ?_; rintro e w' ⟨rfl, rfl⟩) | (gi_at_builtin; refine listIn_run (.tmp 40) (.tmp 42) 53 53 rfl rfl rfl rfl rfl hap ?_) | (refine startIn_ (nn := 6) (S := fun w' => w'.cell? ⟨w.heap.size + 2, 0, none⟩ = some (.slice zd.A zd.n zd.c)) (ds := [4, 5]) #[false, false, false, false, false, false] (by kernel_rfl) rfl rfl (by kernel_rfl) (by rintro ⟨aa, ww, hh⟩; exact hh) c2 (fun hHeld => sorry_mark ?_)))
      unfold Marked
      generalize hX1 : w1.setCell ⟨w.heap.size + 1, 0, none⟩ (.slice s1.A s1.n s1.c) = X1 at *
      have HF := Lib.hid HT1.out.drew
      have HXX := Lib.hid (show XM (tagged (W.alloc (.cells #[.int .i64 (y : Int)] 3)) (tagged W o 0) 1) (some d) (sect S.b (S.ar i) (y : Int)) X1.drew from HX1.out)
      obtain ⟨s2, w2, hap2, g1, g2, g3⟩ := run_append_ow (enc := Value.int .u8) (h1 := fun _ => rfl) (W := X1.drew) 43 43 5 (.int .u8 0) 1 Tryz.underlying43 info5 rfl zd data ((sect S.b (S.ar i) (y : Int)).take (x4.toNat - zd.n)) _ 2 d (x4.toNat - zd.n) 512 (by rw [List.length_take]; unfold sect; rw [Int.toNat_natCast, HR1.out]; omega) (fun j v hj => ba_cell (BytesAt.take HXX.out.1 (x4.toNat - zd.n) (by omega)) j v hj) HF.out.od (by unfold maxLen; have := HM1.out; omega) (by have := HM1.out; omega)
      obtain ⟨HS2, HK2⟩ := HF.out.push2 g1 g3
      have b2 := HF.out.bd.keep g3 (by rw [HF.out.ob _ (by omega), if_neg (by omega), if_pos (by omega)]; decide)
      have c2a : w2.cell? ⟨w.heap.size + 2, 0, none⟩ = some (.slice zd.A zd.n zd.c) := Blk.cell (i := 0) b2.1 rfl
      have c2b : w2.frozen? ⟨w.heap.size + 2, 0, none⟩ = false := Blk.frozen b2.1
      have HT2 := Lib.hid HS2
      have HX2 := Lib.hid (HXX.out.keep HK2 (by decide))
      have HQ2 := Lib.hid (HQ1.out.drew.trans HK2)
      have HO2 := Lib.hid (HO1.out.trans ((keepsDrew X1).trans (g2.trans (KeepsOthers.setCell w2 ⟨w.heap.size + 2, 0, none⟩ (.slice s2.A s2.n s2.c)))))
      clear HS2 HK2 g1 g2 g3 b2 HT1 HX1 HQ1 HO1 hap c2 b1 b1'
      refine tk_ (i := 0) (N := some 44) (v := ?_) (a' := ?_) rfl rfl (by kernel_rfl) (fun _ _ _ h => h) (by rfl) ?_ hHeld ?_ ?_
      rotate_left
      ·
       intro w' s0
       have q1 := s0
       go_simp
       with_reducible rfl
      rotate_left
      · (simp only [put_s, List.set, i64_w, i32_w]; rfl)
      refine pu_ (i := 1) (N := some 45) (v := ?_) (a' := ?_) rfl rfl (by kernel_rfl) (fun _ _ _ h => h) (by rfl) ?_ ?_ ?_
      rotate_left
      · (intro w'; go_simp; with_reducible rfl)
      rotate_left
      · (simp only [put_s, List.set, i64_w, i32_w]; rfl)
      refine pu_ (i := 2) (N := some 46) (v := ?_) (a' := ?_) rfl rfl (by kernel_rfl) (fun _ _ _ h => h) (by rfl) ?_ ?_ ?_
      rotate_left
      · (intro w'; go_simp; with_reducible rfl)
      rotate_left
      · (simp only [put_s, List.set, i64_w, i32_w]; rfl)
      refine pu_ (i := 3) (N := some 47) (v := ?_) (a' := ?_) rfl rfl (by kernel_rfl) (fun _ _ _ h => h) (by rfl) ?_ ?_ ?_
      rotate_left
      · (intro w'; go_simp; with_reducible rfl)
      rotate_left
      · (simp only [put_s, List.set, i64_w, i32_w]; rfl)
      refine la_ (i := 4) (N := some 48) rfl rfl (by kernel_rfl) (by decide) (fun K hK => ?_)
      refine value_ (v := .slice s2.A s2.n s2.c) (w1 := w2) (by rfl) rfl (run_app (.tmp 44) (.tmp 47) 43 43 (by rfl) (by rfl) rfl rfl hap2) ?_
      refine hK.out _ _ ?_
      clear hK K
      refine norm_ (a' := ?_) ?_ ?_
      rotate_left
      ·
       show Act.put _ (some 48) _ = _
       simp only [put_s, List.set, i64_w, i32_w]
       rfl
      refine la_ (i := 5) (N := none) rfl rfl (by kernel_rfl) (by decide) (fun K hK => ?_)
      refine skip_ (w1 := w2.setCell ⟨w.heap.size + 2, 0, none⟩ (.slice s2.A s2.n s2.c)) (by rfl) rfl (by go_simp) ?_
      refine hK.out _ _ ?_
      clear hK K
      refine done_ (by kernel_rfl) ?_
      generalize hX2 : w2.setCell ⟨w.heap.size + 2, 0, none⟩ (.slice s2.A s2.n s2.c) = X2 at *
      clear hX1 hX2 c2a c2b hap2 hHeld
      have HGC := Lib.hid (get_ok X2 (some ⟨d.block, d.off + 510, none⟩) 2 2 ((sect S.b (S.ar i) (y : Int)).drop 510) (by
       have h := cut_at HX2.out.1 510 2 (by omega) (by omega)
       rwa [List.take_of_length_le (by rw [List.length_drop]; unfold sect; rw [Int.toNat_natCast, HR1.out]; decide)] at h) (fun v hv => HR2.out v (by unfold sect at hv; rw [Int.toNat_natCast] at hv; exact List.mem_of_mem_drop hv)) (by decide) (by decide))
      have hnx := hS.nxt (a := S.ar i) (n := (y : Int)) hk
      have hv : unle ((sect S.b (S.ar i) (y : Int)).drop 510) = nxt S.b (S.ar i) (y : Int) := rfl
      rw [hv] at HGC
      have HNX := Lib.hid hnx
      have HEN := Lib.hid (show ends S.b (S.ar i) x6 ((pre ++ [((y : Int), some d)]).map (·.1)) = nxt S.b (S.ar i) (y : Int) by rw [List.map_append]; exact ends_snoc _ _ _ _ _)
      have HSN := HT2.out.setN (nxt S.b (S.ar i) (y : Int))
      have HT3 := Lib.hid HSN.1
      have HQ3 := Lib.hid (HQ2.out.trans HSN.2)
      have HO3 := Lib.hid (HO2.out.trans (KeepsOthers.setCell X2 ⟨w.heap.size + 4, 0, none⟩ (.int .i64 (nxt S.b (S.ar i) (y : Int)))))
      have d1 : X2.cell? ⟨w.heap.size + 4, 0, none⟩ = some (.int .i64 (ends S.b (S.ar i) x6 (pre.map (·.1)))) := Blk.cell (i := 0) HT2.out.bn rfl
      have d2 : X2.frozen? ⟨w.heap.size + 4, 0, none⟩ = false := Blk.frozen HT2.out.bn
      clear hv HSN
      generalize nxt S.b (S.ar i) (y : Int) = nv at *
      gi_wp2_with (refine ⟨trivial, ?_⟩; gi_at_call 105; refine (CallsIn.inRound l (callsIn_wide.2 HGC.out)).mono ?_; rintro e w' ⟨rfl, rfl⟩)
      refine ⟨HO3.out.from _, H3.out.kc HQ3.out (x := ((y : Int), some d)) H4.out, ?_⟩
      refine ⟨_, s1, s2, _, _, ?_, HP.out, by rw [HEN.out]; exact HT3.out⟩
      rw [List.map_append]
      refine (fol_snoc S.b (S.ar i) x4 _ _ _ _ _ (y : Int) H1.out).trans ?_
      show (if folBad S.b (S.ar i) x4 secs data (y : Int) = true then none else some (secs ++ [(y : Int)], folNext S.b (S.ar i) x4 data (y : Int))) = _
      rw [HX.out, HN.out]
      rfl
     ·
      rw [hany] at HC103
      have HX := Lib.hid (show folBad S.b (S.ar i) x4 secs data (y : Int) = true by unfold folBad; rw [hpn, hcon]; simp only [Int.toNat_natCast]; rw [hany]; simp)
      clear hpn hcon hany
      gi_wp2_with (first | (refine ⟨trivial, ?_⟩; gi_at_call 94; refine (CallsIn.inRound l (callsIn_wide.2 HC94.out)).mono ?_; rintro e w' ⟨rfl, rfl⟩) | (refine ⟨trivial, ?_⟩; gi_at_call 103; refine (CallsIn.inRound l (callsIn_wide.2 HC103.out)).mono ?_; rintro e w' ⟨rfl, rfl⟩) | (refine ⟨trivial, ?_⟩))
      exact ⟨(((KeepsOthers.setCell _ _ _).trans (KeepsOthers.setCell _ _ _)).trans (KeepsOthers.setCell _ _ _)).from _, rfl, ⟨pre, _, secs, data, rfl, H1.out, HX.out⟩, HBAD.out.1, HBAD.out.2⟩
    ·
     rw [hcon] at HC94
     have HX := Lib.hid (show folBad S.b (S.ar i) x4 secs data (y : Int) = true by unfold folBad; rw [hcon]; simp)
     clear hpn hcon
     gi_wp2_with (first | (refine ⟨trivial, ?_⟩; gi_at_call 94; refine (CallsIn.inRound l (callsIn_wide.2 HC94.out)).mono ?_; rintro e w' ⟨rfl, rfl⟩) | (refine ⟨trivial, ?_⟩))
     exact ⟨(((KeepsOthers.setCell _ _ _).trans (KeepsOthers.setCell _ _ _)).trans (KeepsOthers.setCell _ _ _)).from _, rfl, ⟨pre, _, secs, data, rfl, H1.out, HX.out⟩, HBAD.out.1, HBAD.out.2⟩
 case done =>
  rintro D ys W hD ⟨hch, hend⟩ ⟨o, zs, zd, secs, data, h1, h2, h3⟩ hK
  have hFS : followS S.b (S.ar i) ⟨x1, x2, x3, x4, x5, x6⟩ = (secs, data, decide (ends S.b (S.ar i) x6 (ys.map (·.1)) = 0) && decide ((data.length : Int) = x4) && decide (sumS data = x5)) := by
   unfold followS
   rw [folF_done S.b (S.ar i) x4 (ys.map (·.1)) ((S.ar i).sec + 2) x6 [] [] secs data h2 h1 hend (by have := fol_len h2 h1; omega)]
  have e3 : W.cell? ⟨w.heap.size, 3, none⟩ = some (.int .i64 x4) := Blk.cell (i := 3) h3.bh rfl
  have e4 : W.cell? ⟨w.heap.size, 4, none⟩ = some (.int .u32 x5) := Blk.cell (i := 4) h3.bh rfl
  have e5 : W.cell? ⟨w.heap.size + 1, 0, none⟩ = some (.slice zs.A zs.n zs.c) := Blk.cell (i := 0) h3.bs rfl
  have e6 : W.cell? ⟨w.heap.size + 2, 0, none⟩ = some (.slice zd.A zd.n zd.c) := Blk.cell (i := 0) h3.bd rfl
  have e7 : W.cell? ⟨w.heap.size + 3, 0, none⟩ = some (.bool false) := Blk.cell (i := 0) h3.bk rfl
  have e8 : W.cell? ⟨w.heap.size + 4, 0, none⟩ = some (.int .i64 (ends S.b (S.ar i) x6 (ys.map (·.1)))) := Blk.cell (i := 0) h3.bn rfl
  have f5 : W.frozen? ⟨w.heap.size + 1, 0, none⟩ = false := Blk.frozen h3.bs
  have f6 : W.frozen? ⟨w.heap.size + 2, 0, none⟩ = false := Blk.frozen h3.bd
  have f7 : W.frozen? ⟨w.heap.size + 3, 0, none⟩ = false := Blk.frozen h3.bk
  have hdl := (ow_len h3.od).1
  have HUS : u8s data := fol_u8 _ _ hS x4 _ _ _ _ _ h1 (fun x hx => by have := (inA_iff _ _).1 (ch_mem h2 x hx); omega) (fun x hx => by cases hx)
  have hzn : zd.n < 2 ^ 40 := by have h5 := hh.z0; dsimp only at h5; have := fol_size S.b (S.ar i) x4 _ _ _ _ _ h1 (by show (0 : Int) ≤ x4; exact h5.1); omega
  have H3 := Lib.hid h3
  have HK := Lib.hid hK
  generalize ends S.b (S.ar i) x6 (ys.map (·.1)) = en at *
  have HFS := Lib.hid hFS
  clear hFS h1 h2 h3 hch hend hK
  go_upto_region 11 with (fail)
  by_cases hen : en = 0
  ·
   subst hen
   have hzc := (ow_len H3.out.od).2.1
   by_cases hln : (zd.n : Int) = x4
   ·
    have hb : ((zd.n : Int) == x4) = true := beq_iff_eq.2 hln
    have HDB := Lib.hid (ow_len H3.out.od).2.2
    have HDC := Lib.hid hzc
    have HDU := Lib.hid HUS
    have HFR := Lib.hid (show (followS S.b (S.ar i) ⟨x1, x2, x3, x4, x5, x6⟩).1 = secs ∧ (followS S.b (S.ar i) ⟨x1, x2, x3, x4, x5, x6⟩).2.1 = data ∧ (followS S.b (S.ar i) ⟨x1, x2, x3, x4, x5, x6⟩).2.2 = (sumS data == x5) from by rw [HFS.out]; exact ⟨rfl, rfl, by show (decide ((0 : Int) = 0) && decide ((data.length : Int) = x4) && decide (sumS data = x5)) = _; rw [hdl, decide_eq_true hln]; simp; rfl⟩)
    clear HFS
    clear hln HUS
    refine start_ (n := 21) (S := fun w' => w'.cell? ⟨w.heap.size + 1, 0, none⟩ = some (.slice zs.A zs.n zs.c) ∧ w'.cell? ⟨w.heap.size + 2, 0, none⟩ = some (.slice zd.A zd.n zd.c) ∧ w'.cell? ⟨w.heap.size + 4, 0, none⟩ = some (.int .i64 0) ∧ w'.cell? ⟨w.heap.size, 3, none⟩ = some (.int .i64 x4) ∧ w'.cell? ⟨w.heap.size, 4, none⟩ = some (.int .u32 x5)) (ds := []) #[false, false, false, false, false, false, false, false, false, false, false, false, false, false, false, false, false, false, false, false, false] (by kernel_rfl) rfl rfl ⟨e5, e6, e8, e3, e4⟩ (fun hHeld => ?_)
    refine tk_ (i := 0) (N := some 53) (v := ?_) (a' := ?_) rfl rfl (by kernel_rfl) (fun _ _ _ h => h) (by rfl) ?_ hHeld ?_ ?_
    rotate_left
    ·
     intro w' s0
     obtain ⟨q1, q2, q3, q4, q5⟩ := s0
     go_simp
     with_reducible rfl
    rotate_left
    · (simp only [put_s, List.set, i64_w, i32_w]; rfl)
    refine tk_ (i := 1) (N := some 54) (v := ?_) (a' := ?_) rfl rfl (by kernel_rfl) (fun _ _ _ h => h) (by rfl) ?_ hHeld ?_ ?_
    rotate_left
    ·
     intro w' s0
     obtain ⟨q1, q2, q3, q4, q5⟩ := s0
     go_simp
     with_reducible rfl
    rotate_left
    · (simp only [put_s, List.set, i64_w, i32_w]; rfl)
    refine tk_ (i := 2) (N := some 55) (v := ?_) (a' := ?_) rfl rfl (by kernel_rfl) (fun _ _ _ h => h) (by rfl) ?_ hHeld ?_ ?_
    rotate_left
    ·
     intro w' s0
     obtain ⟨q1, q2, q3, q4, q5⟩ := s0
     go_simp
     with_reducible rfl
    rotate_left
    · (simp only [put_s, List.set, i64_w, i32_w]; rfl)
    refine pu_ (i := 3) (N := some 56) (v := ?_) (a' := ?_) rfl rfl (by kernel_rfl) (fun _ _ _ h => h) (by rfl) ?_ ?_ ?_
    rotate_left
    · (intro w'; go_simp; with_reducible rfl)
    rotate_left
    · (simp only [put_s, List.set, i64_w, i32_w]; rfl)
    refine pu_ (i := 4) (N := some 57) (v := ?_) (a' := ?_) rfl rfl (by kernel_rfl) (fun _ _ _ h => h) (by rfl) ?_ ?_ ?_
    rotate_left
    · (intro w'; go_simp; with_reducible rfl)
    rotate_left
    · (simp only [put_s, List.set, i64_w, i32_w]; rfl)
    refine tk_ (i := 5) (N := some 58) (v := ?_) (a' := ?_) rfl rfl (by kernel_rfl) (fun _ _ _ h => h) (by rfl) ?_ hHeld ?_ ?_
    rotate_left
    ·
     intro w' s0
     obtain ⟨q1, q2, q3, q4, q5⟩ := s0
     go_simp
     with_reducible rfl
    rotate_left
    · (simp only [put_s, List.set, i64_w, i32_w]; rfl)
    refine pu_ (i := 6) (N := some 59) (v := ?_) (a' := ?_) rfl rfl (by kernel_rfl) (fun _ _ _ h => h) (by rfl) ?_ ?_ ?_
    rotate_left
    · (intro w'; go_simp; with_reducible rfl)
    rotate_left
    · (simp only [put_s, List.set, i64_w, i32_w]; rfl)
    refine pu_ (i := 7) (N := some 60) (v := ?_) (a' := ?_) rfl rfl (by kernel_rfl) (fun _ _ _ h => h) (by rfl) ?_ ?_ ?_
    rotate_left
    · (intro w'; go_simp; with_reducible rfl)
    rotate_left
    · (simp only [put_s, List.set, i64_w, i32_w]; rfl)
    refine tk_ (i := 8) (N := some 61) (v := ?_) (a' := ?_) rfl rfl (by kernel_rfl) (fun _ _ _ h => h) (by rfl) ?_ hHeld ?_ ?_
    rotate_left
    ·
     intro w' s0
     obtain ⟨q1, q2, q3, q4, q5⟩ := s0
     go_simp
     with_reducible rfl
    rotate_left
    · (simp only [put_s, List.set, i64_w, i32_w]; rfl)
    refine pu_ (i := 9) (N := some 62) (v := ?_) (a' := ?_) rfl rfl (by kernel_rfl) (fun _ _ _ h => h) (by rfl) ?_ ?_ ?_
    rotate_left
    · (intro w'; go_simp; with_reducible rfl)
    rotate_left
    · (simp only [put_s, List.set, i64_w, i32_w]; rfl)
    refine pu_ (i := 10) (N := some 63) (v := ?_) (a' := ?_) rfl rfl (by kernel_rfl) (fun _ _ _ h => h) (by rfl) ?_ ?_ ?_
    rotate_left
    · (intro w'; go_simp; with_reducible rfl)
    rotate_left
    · (simp only [put_s, List.set, i64_w, i32_w]; rfl)
    refine pu_ (i := 11) (N := some 64) (v := ?_) (a' := ?_) rfl rfl (by kernel_rfl) (fun _ _ _ h => h) (by rfl) ?_ ?_ ?_
    rotate_left
    · (intro w'; go_simp; with_reducible rfl)
    rotate_left
    · (simp only [put_s, List.set, i64_w, i32_w]; rfl)
    refine tk_ (i := 12) (N := some 65) (v := ?_) (a' := ?_) rfl rfl (by kernel_rfl) (fun _ _ _ h => h) (by rfl) ?_ hHeld ?_ ?_
    rotate_left
    ·
     intro w' s0
     obtain ⟨q1, q2, q3, q4, q5⟩ := s0
     go_simp
     with_reducible rfl
    rotate_left
    · (simp only [put_s, List.set, i64_w, i32_w]; rfl)
    refine pu_ (i := 14) (N := some 67) (v := ?_) (a' := ?_) rfl rfl (by kernel_rfl) (fun _ _ _ h => h) (by rfl) ?_ ?_ ?_
    rotate_left
    · (intro w'; go_simp; with_reducible rfl)
    rotate_left
    · (simp only [put_s, List.set, i64_w, i32_w]; rfl)
    refine tk_ (i := 15) (N := some 68) (v := ?_) (a' := ?_) rfl rfl (by kernel_rfl) (fun _ _ _ h => h) (by rfl) ?_ hHeld ?_ ?_
    rotate_left
    ·
     intro w' s0
     obtain ⟨q1, q2, q3, q4, q5⟩ := s0
     go_simp
     with_reducible rfl
    rotate_left
    · (simp only [put_s, List.set, i64_w, i32_w]; rfl)
    refine on_ (i := 13) (N := some 66) rfl rfl (by kernel_rfl) (by decide) (fun K hK => ?_)
    refine goes_ Tryz.func55 (by kernel_rfl) rfl #[.slice zd.A zd.n zd.c] (by first | rfl | (simp [Act.eval]; done)) rfl rfl (by first | rfl | (simp [Act.eval]; done)) ?_
    refine Calls.mono (sum_ok _ zd.A zd.n zd.c data HDB.out HDU.out (by omega) HDC.out) ?_
    rintro e w2 ⟨rfl, rfl⟩
    refine ⟨_, rfl, ?_⟩
    refine hK.out _ _ hHeld (fun hHeld => ?_)
    clear hK K
    refine norm_ (a' := ?_) ?_ ?_
    rotate_left
    ·
     show Act.put _ (some 66) _ = _
     simp only [put_s, List.set, i64_w, i32_w]
     rfl
    refine pu_ (i := 16) (N := some 69) (v := ?_) (a' := ?_) rfl rfl (by kernel_rfl) (fun _ _ _ h => h) (by rfl) ?_ ?_ ?_
    rotate_left
    · (intro w'; go_simp; with_reducible rfl)
    rotate_left
    · (simp only [put_s, List.set, i64_w, i32_w]; rfl)
    refine pu_ (i := 17) (N := some 70) (v := ?_) (a' := ?_) rfl rfl (by kernel_rfl) (fun _ _ _ h => h) (by rfl) ?_ ?_ ?_
    rotate_left
    · (intro w'; go_simp; with_reducible rfl)
    rotate_left
    · (simp only [put_s, List.set, i64_w, i32_w]; rfl)
    refine on_ (i := 18) (N := none) rfl rfl (by kernel_rfl) (by decide) (fun K hK => ?_)
    refine skip_ (w1 := (W.drew.setCell ⟨w.heap.size + 1, 0, none⟩ (.slice zs.A zs.n zs.c))) (by rfl) rfl (by go_simp) ?_
    refine hK.out _ _ (fiS hHeld 1 _ (by simp)) (fun hHeld => ?_)
    clear hK K
    refine on_ (i := 19) (N := none) rfl rfl (by kernel_rfl) (by decide) (fun K hK => ?_)
    refine skip_ (w1 := ((W.drew.setCell ⟨w.heap.size + 1, 0, none⟩ (.slice zs.A zs.n zs.c)).setCell ⟨w.heap.size + 2, 0, none⟩ (.slice zd.A zd.n zd.c))) (by rfl) rfl (by go_simp) ?_
    refine hK.out _ _ (fiS hHeld 2 _ (by simp)) (fun hHeld => ?_)
    clear hK K
    refine on_ (i := 20) (N := none) rfl rfl (by kernel_rfl) (by decide) (fun K hK => ?_)
    refine skip_ (w1 := (((W.drew.setCell ⟨w.heap.size + 1, 0, none⟩ (.slice zs.A zs.n zs.c)).setCell ⟨w.heap.size + 2, 0, none⟩ (.slice zd.A zd.n zd.c)).setCell ⟨w.heap.size + 3, 0, none⟩ (.bool (sumS data == x5)))) (by rfl) rfl (by go_simp) ?_
    refine hK.out _ _ (fiS hHeld 3 _ (.inr (.inr rfl))) (fun hHeld => ?_)
    clear hK K
    refine done_ (by kernel_rfl) ?_
    obtain ⟨Y, hY, j0, j1, j2, j3, j4⟩ := H3.out.drew.fin ((sumS data == x5)) D (by omega) HK.out
    rw [← hY]
    clear hY
    go_wp2_with fail
    have j5 : FollowP w (followS S.b (S.ar i) ⟨x1, x2, x3, x4, x5, x6⟩).1 (followS S.b (S.ar i) ⟨x1, x2, x3, x4, x5, x6⟩).2.1 (followS S.b (S.ar i) ⟨x1, x2, x3, x4, x5, x6⟩).2.2 (.returned (.tuple #[.slice zs.A zs.n zs.c, .slice zd.A zd.n zd.c, .bool (sumS data == x5)])) (Y.putObj D (.deferred none)) := by rw [HFR.out.1, HFR.out.2.1, HFR.out.2.2]; exact j4
    exact ⟨by simp, .inl ⟨_, _, rfl, run_takeDeferred j0, .tuple #[.slice zs.A zs.n zs.c, .slice zd.A zd.n zd.c, .bool (sumS data == x5)], by simp [results, Tryz.f65, go_sem, j1, j2, j3], j5⟩⟩
   ·
    have hb : ((zd.n : Int) == x4) = false := beq_eq_false_iff_ne.2 hln
    have HFR := Lib.hid (show (followS S.b (S.ar i) ⟨x1, x2, x3, x4, x5, x6⟩).1 = secs ∧ (followS S.b (S.ar i) ⟨x1, x2, x3, x4, x5, x6⟩).2.1 = data ∧ (followS S.b (S.ar i) ⟨x1, x2, x3, x4, x5, x6⟩).2.2 = false from by rw [HFS.out]; exact ⟨rfl, rfl, by show (decide ((0 : Int) = 0) && decide ((data.length : Int) = x4) && decide (sumS data = x5)) = _; rw [hdl, decide_eq_false hln]; rfl⟩)
    clear HFS
    clear hln HUS
    refine start_ (n := 21) (S := fun w' => w'.cell? ⟨w.heap.size + 1, 0, none⟩ = some (.slice zs.A zs.n zs.c) ∧ w'.cell? ⟨w.heap.size + 2, 0, none⟩ = some (.slice zd.A zd.n zd.c) ∧ w'.cell? ⟨w.heap.size + 4, 0, none⟩ = some (.int .i64 0) ∧ w'.cell? ⟨w.heap.size, 3, none⟩ = some (.int .i64 x4) ∧ w'.cell? ⟨w.heap.size, 4, none⟩ = some (.int .u32 x5)) (ds := []) #[false, false, false, false, false, false, false, false, false, false, false, false, false, false, false, false, false, false, false, false, false] (by kernel_rfl) rfl rfl ⟨e5, e6, e8, e3, e4⟩ (fun hHeld => ?_)
    refine tk_ (i := 0) (N := some 53) (v := ?_) (a' := ?_) rfl rfl (by kernel_rfl) (fun _ _ _ h => h) (by rfl) ?_ hHeld ?_ ?_
    rotate_left
    ·
     intro w' s0
     obtain ⟨q1, q2, q3, q4, q5⟩ := s0
     go_simp
     with_reducible rfl
    rotate_left
    · (simp only [put_s, List.set, i64_w, i32_w]; rfl)
    refine tk_ (i := 1) (N := some 54) (v := ?_) (a' := ?_) rfl rfl (by kernel_rfl) (fun _ _ _ h => h) (by rfl) ?_ hHeld ?_ ?_
    rotate_left
    ·
     intro w' s0
     obtain ⟨q1, q2, q3, q4, q5⟩ := s0
     go_simp
     with_reducible rfl
    rotate_left
    · (simp only [put_s, List.set, i64_w, i32_w]; rfl)
    refine tk_ (i := 2) (N := some 55) (v := ?_) (a' := ?_) rfl rfl (by kernel_rfl) (fun _ _ _ h => h) (by rfl) ?_ hHeld ?_ ?_
    rotate_left
    ·
     intro w' s0
     obtain ⟨q1, q2, q3, q4, q5⟩ := s0
     go_simp
     with_reducible rfl
    rotate_left
    · (simp only [put_s, List.set, i64_w, i32_w]; rfl)
    refine pu_ (i := 3) (N := some 56) (v := ?_) (a' := ?_) rfl rfl (by kernel_rfl) (fun _ _ _ h => h) (by rfl) ?_ ?_ ?_
    rotate_left
    · (intro w'; go_simp; with_reducible rfl)
    rotate_left
    · (simp only [put_s, List.set, i64_w, i32_w]; rfl)
    refine pu_ (i := 4) (N := some 57) (v := ?_) (a' := ?_) rfl rfl (by kernel_rfl) (fun _ _ _ h => h) (by rfl) ?_ ?_ ?_
    rotate_left
    · (intro w'; go_simp; with_reducible rfl)
    rotate_left
    · (simp only [put_s, List.set, i64_w, i32_w]; rfl)
    refine tk_ (i := 5) (N := some 58) (v := ?_) (a' := ?_) rfl rfl (by kernel_rfl) (fun _ _ _ h => h) (by rfl) ?_ hHeld ?_ ?_
    rotate_left
    ·
     intro w' s0
     obtain ⟨q1, q2, q3, q4, q5⟩ := s0
     go_simp
     with_reducible rfl
    rotate_left
    · (simp only [put_s, List.set, i64_w, i32_w]; rfl)
    refine pu_ (i := 6) (N := some 59) (v := ?_) (a' := ?_) rfl rfl (by kernel_rfl) (fun _ _ _ h => h) (by rfl) ?_ ?_ ?_
    rotate_left
    · (intro w'; go_simp; with_reducible rfl)
    rotate_left
    · (simp only [put_s, List.set, i64_w, i32_w]; rfl)
    refine pu_ (i := 7) (N := some 60) (v := ?_) (a' := ?_) rfl rfl (by kernel_rfl) (fun _ _ _ h => h) (by rfl) ?_ ?_ ?_
    rotate_left
    · (intro w'; go_simp; with_reducible rfl)
    rotate_left
    · (simp only [put_s, List.set, i64_w, i32_w]; rfl)
    refine tk_ (i := 8) (N := some 61) (v := ?_) (a' := ?_) rfl rfl (by kernel_rfl) (fun _ _ _ h => h) (by rfl) ?_ hHeld ?_ ?_
    rotate_left
    ·
     intro w' s0
     obtain ⟨q1, q2, q3, q4, q5⟩ := s0
     go_simp
     with_reducible rfl
    rotate_left
    · (simp only [put_s, List.set, i64_w, i32_w]; rfl)
    refine pu_ (i := 9) (N := some 62) (v := ?_) (a' := ?_) rfl rfl (by kernel_rfl) (fun _ _ _ h => h) (by rfl) ?_ ?_ ?_
    rotate_left
    · (intro w'; go_simp; with_reducible rfl)
    rotate_left
    · (simp only [put_s, List.set, i64_w, i32_w]; rfl)
    refine pu_ (i := 10) (N := some 63) (v := ?_) (a' := ?_) rfl rfl (by kernel_rfl) (fun _ _ _ h => h) (by rfl) ?_ ?_ ?_
    rotate_left
    · (intro w'; go_simp; with_reducible rfl)
    rotate_left
    · (simp only [put_s, List.set, i64_w, i32_w]; rfl)
    refine pu_ (i := 11) (N := some 64) (v := ?_) (a' := ?_) rfl rfl (by kernel_rfl) (fun _ _ _ h => h) (by rfl) ?_ ?_ ?_
    rotate_left
    · (intro w'; go_simp; with_reducible rfl)
    rotate_left
    · (simp only [put_s, List.set, i64_w, i32_w]; rfl)
    refine pure_ (i := 12) (N := some 65) (v := undef) (a' := ?_) #[true, true, true, true, true, true, true, true, true, true, true, true, true, false, false, false, false, false, false, false, false] rfl rfl (by kernel_rfl) (fun _ _ _ h => h) (Or.inr ⟨by rfl, rfl⟩) ?_ ?_
    rotate_left
    · (simp only [put_s, List.set, i64_w, i32_w]; rfl)
    refine pure_ (i := 13) (N := some 66) (v := undef) (a' := ?_) #[true, true, true, true, true, true, true, true, true, true, true, true, true, true, false, false, false, false, false, false, false] rfl rfl (by kernel_rfl) (fun _ _ _ h => h) (Or.inr ⟨by rfl, rfl⟩) ?_ ?_
    rotate_left
    · (simp only [put_s, List.set, i64_w, i32_w]; rfl)
    refine pure_ (i := 14) (N := some 67) (v := undef) (a' := ?_) #[true, true, true, true, true, true, true, true, true, true, true, true, true, true, true, false, false, false, false, false, false] rfl rfl (by kernel_rfl) (fun _ _ _ h => h) (Or.inr ⟨by rfl, rfl⟩) ?_ ?_
    rotate_left
    · (simp only [put_s, List.set, i64_w, i32_w]; rfl)
    refine pure_ (i := 15) (N := some 68) (v := undef) (a' := ?_) #[true, true, true, true, true, true, true, true, true, true, true, true, true, true, true, true, false, false, false, false, false] rfl rfl (by kernel_rfl) (fun _ _ _ h => h) (Or.inr ⟨by rfl, rfl⟩) ?_ ?_
    rotate_left
    · (simp only [put_s, List.set, i64_w, i32_w]; rfl)
    refine pure_ (i := 16) (N := some 69) (v := undef) (a' := ?_) #[true, true, true, true, true, true, true, true, true, true, true, true, true, true, true, true, true, false, false, false, false] rfl rfl (by kernel_rfl) (fun _ _ _ h => h) (Or.inr ⟨by rfl, rfl⟩) ?_ ?_
    rotate_left
    · (simp only [put_s, List.set, i64_w, i32_w]; rfl)
    refine pu_ (i := 17) (N := some 70) (v := ?_) (a' := ?_) rfl rfl (by kernel_rfl) (fun _ _ _ h => h) (by rfl) ?_ ?_ ?_
    rotate_left
    · (intro w'; go_simp; with_reducible rfl)
    rotate_left
    · (simp only [put_s, List.set, i64_w, i32_w]; rfl)
    refine on_ (i := 18) (N := none) rfl rfl (by kernel_rfl) (by decide) (fun K hK => ?_)
    refine skip_ (w1 := (W.drew.setCell ⟨w.heap.size + 1, 0, none⟩ (.slice zs.A zs.n zs.c))) (by rfl) rfl (by go_simp) ?_
    refine hK.out _ _ (fiS hHeld 1 _ (by simp)) (fun hHeld => ?_)
    clear hK K
    refine on_ (i := 19) (N := none) rfl rfl (by kernel_rfl) (by decide) (fun K hK => ?_)
    refine skip_ (w1 := ((W.drew.setCell ⟨w.heap.size + 1, 0, none⟩ (.slice zs.A zs.n zs.c)).setCell ⟨w.heap.size + 2, 0, none⟩ (.slice zd.A zd.n zd.c))) (by rfl) rfl (by go_simp) ?_
    refine hK.out _ _ (fiS hHeld 2 _ (by simp)) (fun hHeld => ?_)
    clear hK K
    refine on_ (i := 20) (N := none) rfl rfl (by kernel_rfl) (by decide) (fun K hK => ?_)
    refine skip_ (w1 := (((W.drew.setCell ⟨w.heap.size + 1, 0, none⟩ (.slice zs.A zs.n zs.c)).setCell ⟨w.heap.size + 2, 0, none⟩ (.slice zd.A zd.n zd.c)).setCell ⟨w.heap.size + 3, 0, none⟩ (.bool false))) (by rfl) rfl (by go_simp) ?_
    refine hK.out _ _ (fiS hHeld 3 _ (.inr (.inr rfl))) (fun hHeld => ?_)
    clear hK K
    refine done_ (by kernel_rfl) ?_
    obtain ⟨Y, hY, j0, j1, j2, j3, j4⟩ := H3.out.drew.fin (false) D (by omega) HK.out
    rw [← hY]
    clear hY
    go_wp2_with fail
    have j5 : FollowP w (followS S.b (S.ar i) ⟨x1, x2, x3, x4, x5, x6⟩).1 (followS S.b (S.ar i) ⟨x1, x2, x3, x4, x5, x6⟩).2.1 (followS S.b (S.ar i) ⟨x1, x2, x3, x4, x5, x6⟩).2.2 (.returned (.tuple #[.slice zs.A zs.n zs.c, .slice zd.A zd.n zd.c, .bool false])) (Y.putObj D (.deferred none)) := by rw [HFR.out.1, HFR.out.2.1, HFR.out.2.2]; exact j4
    exact ⟨by simp, .inl ⟨_, _, rfl, run_takeDeferred j0, .tuple #[.slice zs.A zs.n zs.c, .slice zd.A zd.n zd.c, .bool false], by simp [results, Tryz.f65, go_sem, j1, j2, j3], j5⟩⟩
  ·
   have hb : (en == 0) = false := beq_eq_false_iff_ne.2 hen
   have HFR := Lib.hid (show (followS S.b (S.ar i) ⟨x1, x2, x3, x4, x5, x6⟩).1 = secs ∧ (followS S.b (S.ar i) ⟨x1, x2, x3, x4, x5, x6⟩).2.1 = data ∧ (followS S.b (S.ar i) ⟨x1, x2, x3, x4, x5, x6⟩).2.2 = false from by rw [HFS.out]; exact ⟨rfl, rfl, by show (decide (en = 0) && decide ((data.length : Int) = x4) && decide (sumS data = x5)) = _; rw [decide_eq_false hen]; rfl⟩)
   clear HFS
   clear hen HUS
   refine start_ (n := 21) (S := fun w' => w'.cell? ⟨w.heap.size + 1, 0, none⟩ = some (.slice zs.A zs.n zs.c) ∧ w'.cell? ⟨w.heap.size + 2, 0, none⟩ = some (.slice zd.A zd.n zd.c) ∧ w'.cell? ⟨w.heap.size + 4, 0, none⟩ = some (.int .i64 en) ∧ w'.cell? ⟨w.heap.size, 3, none⟩ = some (.int .i64 x4) ∧ w'.cell? ⟨w.heap.size, 4, none⟩ = some (.int .u32 x5)) (ds := []) #[false, false, false, false, false, false, false, false, false, false, false, false, false, false, false, false, false, false, false, false, false] (by kernel_rfl) rfl rfl ⟨e5, e6, e8, e3, e4⟩ (fun hHeld => ?_)
   refine tk_ (i := 0) (N := some 53) (v := ?_) (a' := ?_) rfl rfl (by kernel_rfl) (fun _ _ _ h => h) (by rfl) ?_ hHeld ?_ ?_
   rotate_left
   ·
    intro w' s0
    obtain ⟨q1, q2, q3, q4, q5⟩ := s0
    go_simp
    with_reducible rfl
   rotate_left
   · (simp only [put_s, List.set, i64_w, i32_w]; rfl)
   refine tk_ (i := 1) (N := some 54) (v := ?_) (a' := ?_) rfl rfl (by kernel_rfl) (fun _ _ _ h => h) (by rfl) ?_ hHeld ?_ ?_
   rotate_left
   ·
    intro w' s0
    obtain ⟨q1, q2, q3, q4, q5⟩ := s0
    go_simp
    with_reducible rfl
   rotate_left
   · (simp only [put_s, List.set, i64_w, i32_w]; rfl)
   refine tk_ (i := 2) (N := some 55) (v := ?_) (a' := ?_) rfl rfl (by kernel_rfl) (fun _ _ _ h => h) (by rfl) ?_ hHeld ?_ ?_
   rotate_left
   ·
    intro w' s0
    obtain ⟨q1, q2, q3, q4, q5⟩ := s0
    go_simp
    with_reducible rfl
   rotate_left
   · (simp only [put_s, List.set, i64_w, i32_w]; rfl)
   refine pu_ (i := 3) (N := some 56) (v := ?_) (a' := ?_) rfl rfl (by kernel_rfl) (fun _ _ _ h => h) (by rfl) ?_ ?_ ?_
   rotate_left
   · (intro w'; go_simp; with_reducible rfl)
   rotate_left
   · (simp only [put_s, List.set, i64_w, i32_w]; rfl)
   refine pu_ (i := 4) (N := some 57) (v := ?_) (a' := ?_) rfl rfl (by kernel_rfl) (fun _ _ _ h => h) (by rfl) ?_ ?_ ?_
   rotate_left
   · (intro w'; go_simp; with_reducible rfl)
   rotate_left
   · (simp only [put_s, List.set, i64_w, i32_w]; rfl)
   refine pure_ (i := 5) (N := some 58) (v := undef) (a' := ?_) #[true, true, true, true, true, true, false, false, false, false, false, false, false, false, false, false, false, false, false, false, false] rfl rfl (by kernel_rfl) (fun _ _ _ h => h) (Or.inr ⟨by rfl, rfl⟩) ?_ ?_
   rotate_left
   · (simp only [put_s, List.set, i64_w, i32_w]; rfl)
   refine pure_ (i := 6) (N := some 59) (v := undef) (a' := ?_) #[true, true, true, true, true, true, true, false, false, false, false, false, false, false, false, false, false, false, false, false, false] rfl rfl (by kernel_rfl) (fun _ _ _ h => h) (Or.inr ⟨by rfl, rfl⟩) ?_ ?_
   rotate_left
   · (simp only [put_s, List.set, i64_w, i32_w]; rfl)
   refine pure_ (i := 7) (N := some 60) (v := undef) (a' := ?_) #[true, true, true, true, true, true, true, true, false, false, false, false, false, false, false, false, false, false, false, false, false] rfl rfl (by kernel_rfl) (fun _ _ _ h => h) (Or.inr ⟨by rfl, rfl⟩) ?_ ?_
   rotate_left
   · (simp only [put_s, List.set, i64_w, i32_w]; rfl)
   refine pure_ (i := 8) (N := some 61) (v := undef) (a' := ?_) #[true, true, true, true, true, true, true, true, true, false, false, false, false, false, false, false, false, false, false, false, false] rfl rfl (by kernel_rfl) (fun _ _ _ h => h) (Or.inr ⟨by rfl, rfl⟩) ?_ ?_
   rotate_left
   · (simp only [put_s, List.set, i64_w, i32_w]; rfl)
   refine pure_ (i := 9) (N := some 62) (v := undef) (a' := ?_) #[true, true, true, true, true, true, true, true, true, true, false, false, false, false, false, false, false, false, false, false, false] rfl rfl (by kernel_rfl) (fun _ _ _ h => h) (Or.inr ⟨by rfl, rfl⟩) ?_ ?_
   rotate_left
   · (simp only [put_s, List.set, i64_w, i32_w]; rfl)
   refine pu_ (i := 10) (N := some 63) (v := ?_) (a' := ?_) rfl rfl (by kernel_rfl) (fun _ _ _ h => h) (by rfl) ?_ ?_ ?_
   rotate_left
   · (intro w'; go_simp; with_reducible rfl)
   rotate_left
   · (simp only [put_s, List.set, i64_w, i32_w]; rfl)
   refine pu_ (i := 11) (N := some 64) (v := ?_) (a' := ?_) rfl rfl (by kernel_rfl) (fun _ _ _ h => h) (by rfl) ?_ ?_ ?_
   rotate_left
   · (intro w'; go_simp; with_reducible rfl)
   rotate_left
   · (simp only [put_s, List.set, i64_w, i32_w]; rfl)
   refine pure_ (i := 12) (N := some 65) (v := undef) (a' := ?_) #[true, true, true, true, true, true, true, true, true, true, true, true, true, false, false, false, false, false, false, false, false] rfl rfl (by kernel_rfl) (fun _ _ _ h => h) (Or.inr ⟨by rfl, rfl⟩) ?_ ?_
   rotate_left
   · (simp only [put_s, List.set, i64_w, i32_w]; rfl)
   refine pure_ (i := 13) (N := some 66) (v := undef) (a' := ?_) #[true, true, true, true, true, true, true, true, true, true, true, true, true, true, false, false, false, false, false, false, false] rfl rfl (by kernel_rfl) (fun _ _ _ h => h) (Or.inr ⟨by rfl, rfl⟩) ?_ ?_
   rotate_left
   · (simp only [put_s, List.set, i64_w, i32_w]; rfl)
   refine pure_ (i := 14) (N := some 67) (v := undef) (a' := ?_) #[true, true, true, true, true, true, true, true, true, true, true, true, true, true, true, false, false, false, false, false, false] rfl rfl (by kernel_rfl) (fun _ _ _ h => h) (Or.inr ⟨by rfl, rfl⟩) ?_ ?_
   rotate_left
   · (simp only [put_s, List.set, i64_w, i32_w]; rfl)
   refine pure_ (i := 15) (N := some 68) (v := undef) (a' := ?_) #[true, true, true, true, true, true, true, true, true, true, true, true, true, true, true, true, false, false, false, false, false] rfl rfl (by kernel_rfl) (fun _ _ _ h => h) (Or.inr ⟨by rfl, rfl⟩) ?_ ?_
   rotate_left
   · (simp only [put_s, List.set, i64_w, i32_w]; rfl)
   refine pure_ (i := 16) (N := some 69) (v := undef) (a' := ?_) #[true, true, true, true, true, true, true, true, true, true, true, true, true, true, true, true, true, false, false, false, false] rfl rfl (by kernel_rfl) (fun _ _ _ h => h) (Or.inr ⟨by rfl, rfl⟩) ?_ ?_
   rotate_left
   · (simp only [put_s, List.set, i64_w, i32_w]; rfl)
   refine pu_ (i := 17) (N := some 70) (v := ?_) (a' := ?_) rfl rfl (by kernel_rfl) (fun _ _ _ h => h) (by rfl) ?_ ?_ ?_
   rotate_left
   · (intro w'; go_simp; with_reducible rfl)
   rotate_left
   · (simp only [put_s, List.set, i64_w, i32_w]; rfl)
   refine on_ (i := 18) (N := none) rfl rfl (by kernel_rfl) (by decide) (fun K hK => ?_)
   refine skip_ (w1 := (W.drew.setCell ⟨w.heap.size + 1, 0, none⟩ (.slice zs.A zs.n zs.c))) (by rfl) rfl (by go_simp) ?_
   refine hK.out _ _ (fiS hHeld 1 _ (by simp)) (fun hHeld => ?_)
   clear hK K
   refine on_ (i := 19) (N := none) rfl rfl (by kernel_rfl) (by decide) (fun K hK => ?_)
   refine skip_ (w1 := ((W.drew.setCell ⟨w.heap.size + 1, 0, none⟩ (.slice zs.A zs.n zs.c)).setCell ⟨w.heap.size + 2, 0, none⟩ (.slice zd.A zd.n zd.c))) (by rfl) rfl (by go_simp) ?_
   refine hK.out _ _ (fiS hHeld 2 _ (by simp)) (fun hHeld => ?_)
   clear hK K
   refine on_ (i := 20) (N := none) rfl rfl (by kernel_rfl) (by decide) (fun K hK => ?_)
   refine skip_ (w1 := (((W.drew.setCell ⟨w.heap.size + 1, 0, none⟩ (.slice zs.A zs.n zs.c)).setCell ⟨w.heap.size + 2, 0, none⟩ (.slice zd.A zd.n zd.c)).setCell ⟨w.heap.size + 3, 0, none⟩ (.bool false))) (by rfl) rfl (by go_simp) ?_
   refine hK.out _ _ (fiS hHeld 3 _ (.inr (.inr rfl))) (fun hHeld => ?_)
   clear hK K
   refine done_ (by kernel_rfl) ?_
   obtain ⟨Y, hY, j0, j1, j2, j3, j4⟩ := H3.out.drew.fin (false) D (by omega) HK.out
   rw [← hY]
   clear hY
   go_wp2_with fail
   have j5 : FollowP w (followS S.b (S.ar i) ⟨x1, x2, x3, x4, x5, x6⟩).1 (followS S.b (S.ar i) ⟨x1, x2, x3, x4, x5, x6⟩).2.1 (followS S.b (S.ar i) ⟨x1, x2, x3, x4, x5, x6⟩).2.2 (.returned (.tuple #[.slice zs.A zs.n zs.c, .slice zd.A zd.n zd.c, .bool false])) (Y.putObj D (.deferred none)) := by rw [HFR.out.1, HFR.out.2.1, HFR.out.2.2]; exact j4
   exact ⟨by simp, .inl ⟨_, _, rfl, run_takeDeferred j0, .tuple #[.slice zs.A zs.n zs.c, .slice zd.A zd.n zd.c, .bool false], by simp [results, Tryz.f65, go_sem, j1, j2, j3], j5⟩⟩
 case stop =>
  rintro D c pre W hD hch ⟨rfl, ⟨pre0, x, secs, data, rfl, h1, hbad⟩, ⟨b1, b2, b3⟩, hB⟩ hK
  refine wpIn_wide.2 ?_
  have hFS : followS S.b (S.ar i) ⟨x1, x2, x3, x4, x5, x6⟩ = ([], [], false) := by
   unfold followS
   have hc2 : Ch S.b (S.ar i) x6 (pre0.map (·.1) ++ [x.1]) := by have := hch; unfold chP at this; rw [List.map_append] at this; exact this
   rw [folF_bad S.b (S.ar i) x4 (pre0.map (·.1)) ((S.ar i).sec + 2) x6 [] [] secs data x.1 hc2 h1 hbad]
  have hD' : w.heap.size + 8 ≤ D := by omega
  have hp : ∀ (k : Nat) (cs : Array Value) (t : TypeId), Blk W k cs t → Blk (W.putObj D (.deferred none)) k cs t := fun k cs t h => (World.putObj_heap_other (fun e => by subst e; rw [show W.heap[k]? = _ from h] at hK; cases hK)).trans h
  have j1 := Blk.cell (i := 0) (hp _ _ _ b1) rfl
  have j2 := Blk.cell (i := 0) (hp _ _ _ b2) rfl
  have j3 := Blk.cell (i := 0) (hp _ _ _ b3) rfl
  have j5 : FollowP w (followS S.b (S.ar i) ⟨x1, x2, x3, x4, x5, x6⟩).1 (followS S.b (S.ar i) ⟨x1, x2, x3, x4, x5, x6⟩).2.1 (followS S.b (S.ar i) ⟨x1, x2, x3, x4, x5, x6⟩).2.2 (.returned (.tuple #[.slice none 0 0, .slice none 0 0, .bool false])) (W.putObj D (.deferred none)) := by
   rw [hFS]
   exact ⟨nilS, nilS, fun _ => 0, rfl, Kd.R_nil _ _ _ _ _, Kd.R_nil _ _ _ _ _, fun _ _ => rfl, hB.trans ⟨rfl, rfl, rfl, by simp [World.putObj], fun k hk => World.putObj_heap_other (by omega)⟩⟩
  have J5 := Lib.hid j5
  clear j5 hFS b1 b2 b3 h1 hbad hch hp
  go_wp2_with fail
  exact ⟨by simp, .inl ⟨_, _, rfl, run_takeDeferred hK, .tuple #[.slice none 0 0, .slice none 0 0, .bool false], by simp [results, Tryz.f65, go_sem, j1, j2, j3], J5.out⟩⟩
end Go.Proofs.YtmofiicjaldmiaaGreatDoor.SvT
end
section
namespace Go.Proofs.YtmofiicjaldmiaaGreatDoor.SvU
open Go.RowKit Go.Shelf YtmofiicjaldmiaaGreatDoorW.PrintWords YtmofiicjaldmiaaGreatDoorW.PrintLast SvA SvB SvC SvD SvE SvF SvG SvH SvI SvJ SvK SvL SvM SvN SvO SvP SvQ SvR SvS SvT
set_option linter.unusedVariables false
set_option linter.unusedSimpArgs false
def wr (b : BS) (n : Nat) (d : List Int) : BS × Bool := if b.full then (b, false) else (b.put (n : Int) d, true)
def chunk (data : List Int) (i : Nat) : List Int := (data.drop (i * 510)).take 510
def layD (a : AR) (data : List Int) : BS → Nat → List Int → BS × Bool
 | b, _, [] => (b, true)
 | b, i, n :: l => if b.full then (b, false) else layD a data (b.put ((a.frm + n.toNat : Nat) : Int) (partS (chunk data i) (l.headD 0))) (i + 1) l
def layH (a : AR) (e : EN) (f : Int) (b : BS) : BS × Bool := if b.full then (b, false) else (BS.sync (b.put ((a.frm + e.at_.toNat : Nat) : Int) (headS e.hd f)), true)
def layS (a : AR) (e : EN) (data : List Int) (b : BS) : BS × Bool :=
  match layD a data b 0 e.secs with
  | (b1, false) => (b1, false)
  | (b1, true) => match layH a e 0 b1 with
    | (b2, false) => (b2, false)
    | (b2, true) => layH a e 1 b2
theorem u8s_app {xs ys : List Int} (h : u8s xs) (k : u8s ys) : u8s (xs ++ ys) := fun x hx => by rcases List.mem_append.1 hx with hx | hx; exact h x hx; exact k x hx
theorem u8s_over {xs d : List Int} (h : u8s xs) (k : u8s d) (o : Nat) : u8s (over xs o d) := u8s_app (u8s_app (fun x hx => h x (List.mem_of_mem_take hx)) k) (fun x hx => h x (List.mem_of_mem_drop hx))
theorem u8s_le (m : Nat) (n : Int) : u8s (le m n) := fun x hx => by
 unfold le at hx
 obtain ⟨i, _, rfl⟩ := List.mem_map.1 hx
 omega
theorem u8s_zeros (n : Nat) : u8s (zeros n) := fun x hx => by
 have := List.eq_of_mem_replicate hx
 omega
theorem u8s_set {xs : List Int} (h : u8s xs) (i : Nat) {v : Int} (hv : 0 ≤ v ∧ v < 256) : u8s (xs.set i v) := fun x hx => by
 rcases List.mem_or_eq_of_mem_set hx with hx | rfl
 · exact h x hx
 · exact hv
theorem u8s_nbytes (s : ByteArray) : u8s (nbytes s) := fun x hx => by
 unfold nbytes at hx
 obtain ⟨c, _, rfl⟩ := List.mem_map.1 hx
 have := c.toNat_lt
 omega
theorem partS_ok {d : List Int} (h : u8s d) (next : Int) (hl : d.length ≤ 510) : u8s (partS d next) ∧ (partS d next).length = 512 := by
 unfold partS
 refine ⟨u8s_over (u8s_over (u8s_zeros _) (fun x hx => h x (List.mem_of_mem_take hx)) _) (u8s_le _ _) _, ?_⟩
 have h1 : (over (zeros 512) 0 (d.take 510)).length = 512 := by rw [over_len (by rw [zeros_len, List.length_take]; omega), zeros_len]
 rw [over_len (by rw [h1, le_len]; omega), h1]
theorem headS_ok {h : HD} (hh : h.ok) {f : Int} (hf : 0 ≤ f ∧ f < 256) : u8s (headS h f) ∧ (headS h f).length = 512 := by
 unfold headS
 have h0 := hh.n0
 have b0 : (((((zeros 512).set 0 f).set 1 83).set 2 h.ten).set 3 h.name.size).length = 512 := by simp only [List.length_set, zeros_len]
 have hn := nbytes_len h.name
 have b1 : (over (((((zeros 512).set 0 f).set 1 83).set 2 h.ten).set 3 h.name.size) 4 (nbytes h.name)).length = 512 := by rw [over_len (by rw [b0, hn]; omega), b0]
 have b2 := over_len (xs := over (((((zeros 512).set 0 f).set 1 83).set 2 h.ten).set 3 h.name.size) 4 (nbytes h.name)) (o := 20) (d := le 4 h.ver) (by rw [b1, le_len]; omega)
 have b3 := over_len (xs := over (over (((((zeros 512).set 0 f).set 1 83).set 2 h.ten).set 3 h.name.size) 4 (nbytes h.name)) 20 (le 4 h.ver)) (o := 24) (d := le 4 h.size) (by rw [b2, b1, le_len]; omega)
 have b4 := over_len (xs := over (over (over (((((zeros 512).set 0 f).set 1 83).set 2 h.ten).set 3 h.name.size) 4 (nbytes h.name)) 20 (le 4 h.ver)) 24 (le 4 h.size)) (o := 28) (d := le 4 h.sum) (by rw [b3, b2, b1, le_len]; omega)
 refine ⟨u8s_over (u8s_over (u8s_over (u8s_over (u8s_over (u8s_set (u8s_set (u8s_set (u8s_set (u8s_zeros _) _ hf) _ (by omega)) _ hh.t0) _ (by omega)) (u8s_nbytes _) _) (u8s_le _ _) _) (u8s_le _ _) _) (u8s_le _ _) _) (u8s_le _ _) _, ?_⟩
 rw [over_len (by rw [b4, b3, b2, b1, le_len]; omega), b4, b3, b2, b1]
theorem put_n (b : BS) (i : Int) (d : List Int) : (b.put i d).n = b.n := rfl
theorem BOk.put {b : BS} (h : BOk b) {n : Nat} (hn : n < b.n) {d : List Int} (hd : u8s d) (hl : d.length = 512) (hp : b.pend.length + 1 < 2 ^ 40) : BOk (b.put (n : Int) d) := by
 refine ⟨⟨h.fit.hz, by show (b.pend ++ [_]).length < _; rw [List.length_append]; exact hp⟩, fun q hq => ?_, h.us, fun q hq => ?_, h.len⟩
 ·
  rcases List.mem_append.1 (show q ∈ b.pend ++ [((n : Int), d)] from hq) with hq | hq
  · exact h.ok q hq
  ·
   simp at hq
   subst hq
   exact ⟨by simp, by rw [put_n]; simp; omega, hl⟩
 ·
  rcases List.mem_append.1 (show q ∈ b.pend ++ [((n : Int), d)] from hq) with hq | hq
  · exact h.up q hq
  ·
   simp at hq
   subst hq
   exact hd
theorem u8s_paste {img : List Int} (h : u8s img) : ∀ (qs : List (Int × List Int)), (∀ q ∈ qs, u8s q.2) → u8s (pasteAll img qs) := by
 intro qs
 induction qs generalizing img with
 | nil => exact fun _ => h
 | cons q qs ih => exact fun hq => ih (u8s_over h (hq q List.mem_cons_self) _) (fun r hr => hq r (List.mem_cons_of_mem _ hr))
theorem sync_len {b : BS} (h : BOk b) : (BS.sync b).safe.length = b.safe.length := paste_all_len b.pend (fun q hq => by
 obtain ⟨h1, h2, h3⟩ := h.ok q hq
 unfold BS.n at h2
 exact ⟨h1, by omega, h3⟩)
theorem sync_n {b : BS} (h : BOk b) : (BS.sync b).n = b.n := by unfold BS.n; rw [sync_len h]
theorem BOk.sync {b : BS} (h : BOk b) : BOk (BS.sync b) :=
  ⟨⟨by rw [sync_len h]; exact h.fit.hz, by show ([] : List (Int × List Int)).length < _; simp⟩, (by intro q hq; cases hq), u8s_paste h.us b.pend h.up, (by intro q hq; cases hq), by rw [sync_len h]; exact h.len⟩
def SV.setB (S : SV) (b : BS) : SV := { S with b := b }
theorem SvMem.store {w w' : World} {own own' : Nat → Nat} {t g gs : Nat} {ga : Nat → Nat} {S : SV} (h : SvMem w own t g gs ga S) (ht : t ≠ 0) {b : BS} (hst : StA w' own' t gs b) (hk : Kp (fun q => q = t ∨ q = t + 1 ∨ q = t + 2) w own w' own') : SvMem w' own' t g gs ga (SV.setB S b) := by
 obtain ⟨a1, a2⟩ := h.bk.keep hk (by rw [h.og]; omega)
 exact ⟨a2.trans h.og, a1, hst, fun i hi => (h.ar i hi).keep hk (by omega) (by omega) (by omega)⟩
theorem cut_any {w : World} {d : Addr} {n : Nat} {xs : List Int} (h : BytesAt w (some d) n xs) (i m : Nat) (hm : i + m ≤ n) : BytesAt w (some (d.add i)) m ((xs.drop i).take m) := by
 by_cases hi : i = 0
 ·
  subst hi
  rw [Addr.add_zero', List.drop_zero]
  exact h.take m (by omega)
 ·
  have := cut_at h i m (by omega) hm
  have e : d.add i = ⟨d.block, d.off + i, none⟩ := by unfold Addr.add; rw [if_neg hi]
  rw [e]
  exact this
theorem layD_step (a : AR) (data : List Int) (b : BS) (i : Nat) (l : List Int) (k : Nat) (n : Int) (hk : l[k]? = some n) (hf : b.full = false) :
  layD a data b i (l.drop k) = layD a data (b.put ((a.frm + n.toNat : Nat) : Int) (partS (chunk data i) ((l[k + 1]?).getD 0))) (i + 1) (l.drop (k + 1)) := by
 have hlt := (List.getElem?_eq_some_iff.1 hk).1
 have he := (List.getElem?_eq_some_iff.1 hk).2
 rw [List.drop_eq_getElem_cons hlt, he]
 unfold layD
 rw [if_neg (by rw [hf]; decide)]
 congr 2
 cases hd : l.drop (k + 1) with
 | nil => rw [List.getElem?_eq_none (by have := congrArg List.length hd; simp at this; omega)]; rfl
 | cons x r =>
  have := congrArg (fun q => q[0]?) hd
  simp only [List.getElem?_drop, Nat.add_zero, List.getElem?_cons_zero] at this
  rw [this]
  rfl
theorem layD_full (a : AR) (data : List Int) (b : BS) (i : Nat) (l : List Int) (k : Nat) (hk : k < l.length) (hf : b.full = true) : layD a data b i (l.drop k) = (b, false) := by
 rw [List.drop_eq_getElem_cons hk]
 unfold layD
 rw [if_pos hf]
end Go.Proofs.YtmofiicjaldmiaaGreatDoor.SvU
end
