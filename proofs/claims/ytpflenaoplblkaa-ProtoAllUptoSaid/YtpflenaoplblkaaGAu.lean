import Derived.BigQuiet
import Derived.Deep.QuietTactic
import Derived.Test.YtpflenaoplblkaaGAg
import Derived.Test.YtpflenaoplblkaaGAt
section
namespace Go.Proofs.Ytpflenaoplblkaa.PcCa
open Go.RowKit YtpflenaoplblkaaW.PrintWords YtpflenaoplblkaaW.PrintLast ProA ProB ProC ProI ProD ProG ProJ ProK ProL ProM ProN ProO ProP ProQ ProR ProU ProZ ProBb PaA
open ProH (msgTab repTab ba)
open ProS PaI PaJ PaK PaL
open PaM PaN PaO PaP PaQ PaR PaS PaT PaU PaV PaWa PaW PaXa PaX PaYa PaYb PaY PaZa PaZ PaD PcA PcBa PcB
set_option linter.unusedVariables false
set_option linter.unusedSimpArgs false
open Go.ChangeShapes Go.WideShapes Go.Deep ProW
def opK : Kd OpS := flatK 12 (fun o => o.cells.toList) (fun _ => rfl) (fun x u hu => by simp [OpS.cells, Sl.enc] at hu; rcases hu with rfl | rfl | rfl | rfl | rfl | rfl | rfl | rfl | rfl | rfl | rfl | rfl <;> rfl)
theorem opK_K {w w1 : World} {x : OpS} {cs : List Value} (h : opK.K w x cs) : opK.K w1 x cs := h
structure OpArg (w : World) (o : OpS) : Prop where
 d : u8K.C w o.d.A o.d.n o.dx ∧ o.d.n ≤ o.d.c
 md : u8K.C w o.md.A o.md.n o.mx ∧ o.md.n ≤ o.md.c
 rd : u8K.C w o.rd.A o.rd.n o.rx ∧ o.rd.n ≤ o.rd.c
 ud : u8s o.dx
 um : u8s o.mx
 ur : u8s o.rx
 ld : o.dx.length ≤ 1100000
 lm : o.mx.length ≤ 1100000
 lr : o.rx.length ≤ 1100000
 ln : o.m2.size ≤ 1000000000
 pp : -9223372036854775808 ≤ o.pp ∧ o.pp ≤ 9223372036854775807
theorem OpArg.below {w w1 : World} {o : OpS} (h : OpArg w o) (hb : Below w.heap.size w w1) : OpArg w1 o :=
  ⟨⟨Kd.C_below h.d.1 hb, h.d.2⟩, ⟨Kd.C_below h.md.1 hb, h.md.2⟩, ⟨Kd.C_below h.rd.1 hb, h.rd.2⟩, h.ud, h.um, h.ur, h.ld, h.lm, h.lr, h.ln, h.pp⟩
theorem OpArg.ok {w : World} {o : OpS} {own : Nat → Nat} (h : OpArg w o) (ho : ∀ k, k < w.heap.size → own k = 27) : OpOk w own o :=
  ⟨⟨h.d.1, h.d.2, fun a ha hn => ho _ (C_lt h.d.1 (by decide) a ha hn)⟩, ⟨h.md.1, h.md.2, fun a ha hn => ho _ (C_lt h.md.1 (by decide) a ha hn)⟩, ⟨h.rd.1, h.rd.2, fun a ha hn => ho _ (C_lt h.rd.1 (by decide) a ha hn)⟩, h.ud, h.um, h.ur, h.ld, h.lm, h.lr, h.ln⟩
theorem bytesSl {w : World} {A : Option Addr} {n c : Nat} {xs : List Int} (h : (Kd.int .u8).C w A n xs) (hc : n ≤ c) : u8K.C w (Sl.mk A n c).A (Sl.mk A n c).n xs ∧ (Sl.mk A n c).n ≤ (Sl.mk A n c).c := ⟨h, hc⟩
theorem first_facts : ∀ r, PProtoAll.arcadelaw12_first.f = some r → r.length = 7 ∧ ∀ x ∈ r, u8s x.f2 ∧ u8s x.f3.f4 ∧ u8s x.f4.f3 ∧ x.f2.length ≤ 100 ∧ x.f3.f4.length ≤ 100 ∧ x.f4.f3.length ≤ 100 ∧ x.f3.f2.size ≤ 100 ∧ x.f1 = 0 := by
 intro r h
 unfold PProtoAll.arcadelaw12_first.f at h
 injection h with h
 subst h
 refine ⟨rfl, fun x hx => ?_⟩
 simp only [List.mem_cons, List.not_mem_nil, or_false] at hx
 rcases hx with rfl | rfl | rfl | rfl | rfl | rfl | rfl <;> exact ⟨by decide, by decide, by decide, by decide, by decide, by decide, by decide, rfl⟩
theorem of_first {w1 : World} {base : Nat} {ok : Nat → Prop} {v : Value} {r : List PProtoAll.S64} (h : Kd.N PProtoAll.k64 64 w1 base ok v r) (hr : PProtoAll.arcadelaw12_first.f = some r) :
  ∃ os : List OpS, opK.R 64 w1 base (fun k => some k = v.ownBlock) v os ∧ os.length = 7 ∧ ∀ w2, w1.grownBy w2 v.ownBlock → ∀ o ∈ os, OpArg w2 o := by
 obtain ⟨hl, hx⟩ := first_facts r hr
 obtain ⟨h0, rows, hlen, hraw, hF⟩ := h
 have hP : ∀ (j : Nat) (x : PProtoAll.S64), r[j]? = some x → ∃ o : OpS, rows[j]? = some o.cells.toList ∧ ∀ w2, w1.grownBy w2 v.ownBlock → OpArg w2 o := by
  intro j x hj
  have hjl : j < rows.length := by rw [hlen]; exact (List.getElem?_eq_some_iff.1 hj).1
  have hK := Kd.FK_now (hF j x rows[j] hj (List.getElem?_eq_getElem hjl))
  obtain ⟨A2, c2, A7, c7, A11, c11, hc, l2, g2, l7, g7, l11, g11⟩ := PProtoAll.k64_open hK
  obtain ⟨u2, u7, u11, b2, b7, b11, bs, hp⟩ := hx x (List.mem_of_getElem? hj)
  refine ⟨⟨x.f0, x.f1, ⟨A2, x.f2.length, c2⟩, x.f2, x.f3.f0, x.f3.f1, x.f3.f2, x.f3.f3, ⟨A7, x.f3.f4.length, c7⟩, x.f3.f4, x.f4.f0, x.f4.f1, x.f4.f2, ⟨A11, x.f4.f3.length, c11⟩, x.f4.f3⟩, ?_, fun w2 hg2 => ?_⟩
  ·
   rw [List.getElem?_eq_getElem hjl, hc]
   rfl
  ·
   have hK2 := Kd.FK_now (Kd.FK_step (W1 := w2) (hF j x rows[j] hj (List.getElem?_eq_getElem hjl)) (fun k hk hlt => hg2.block k hlt hk.2))
   obtain ⟨B2, d2, B7, d7, B11, d11, hd, m2, i2, m7, i7, m11, i11⟩ := PProtoAll.k64_open hK2
   rw [hc] at hd
   simp only [List.cons.injEq, Value.slice.injEq, true_and, and_true] at hd
   obtain ⟨⟨rfl, rfl⟩, ⟨rfl, rfl⟩, rfl, rfl⟩ := hd
   exact ⟨⟨i2, m2⟩, ⟨i7, m7⟩, ⟨i11, m11⟩, u2, u7, u11, by dsimp only; omega, by dsimp only; omega, by dsimp only; omega, by dsimp only; omega, by dsimp only; omega⟩
 obtain ⟨os, hol, ho⟩ := list_choice r hP
 refine ⟨os, ?_, hol.trans hl, fun w2 hg2 o hm => ?_⟩
 ·
  obtain ⟨hok, inner, hown, hrep⟩ := hraw
  refine ⟨hok, inner, by rw [hol, ← hlen]; exact hown, by rw [hol, ← hlen]; exact hrep.1, fun j o hj => ?_⟩
  have hjl : j < r.length := by rw [← hol]; exact (List.getElem?_eq_some_iff.1 hj).1
  obtain ⟨h1, _⟩ := ho j r[j] o (List.getElem?_eq_getElem hjl) hj
  exact (hrep.2 j _ h1).1
 ·
  obtain ⟨j, hj⟩ := List.getElem?_of_mem hm
  have hjl : j < r.length := by rw [← hol]; exact (List.getElem?_eq_some_iff.1 hj).1
  exact (ho j r[j] o (List.getElem?_eq_getElem hjl) hj).2 w2 hg2
theorem twelve {α : Type} (xs : List α) (h : xs.length = 12) : ∃ a b c d e f g i j k l m, xs = [a, b, c, d, e, f, g, i, j, k, l, m] := by
 match xs, h with
 | [a, b, c, d, e, f, g, i, j, k, l, m], _ => exact ⟨a, b, c, d, e, f, g, i, j, k, l, m, rfl⟩
theorem co3 : Try.prog.cellsOf 3 = 1 := by kernel_rfl
theorem co9 : Try.prog.cellsOf 9 = 1 := by kernel_rfl
theorem co22 : Try.prog.cellsOf 22 = 1 := by kernel_rfl
theorem co35 : Try.prog.cellsOf 35 = 5 := by kernel_rfl
theorem co44 : Try.prog.cellsOf 44 = 4 := by kernel_rfl
theorem co64 : Try.prog.cellsOf 64 = 12 := by kernel_rfl
theorem wf64 {n : Int} (h : (Lit.int .i64 n).wf = true) : -9223372036854775808 ≤ n ∧ n ≤ 9223372036854775807 := by
 simp [Lit.wf, IntKind.min, IntKind.max, IntKind.signed, IntKind.bits] at h
 omega
theorem bulk_mem {H : Type} {ys : List (DataW H × List MemPlace)} {i : Nat} {y : DataW H × List MemPlace} (h : ys[i]? = some y) : Rows.uptoBulk y.1 + 1 ≤ Rows.uptoBulk (DataW.agg (ys.map (·.1))) := by
 have h1 : y.1 ∈ ys.map (·.1) := List.mem_map.2 ⟨y, List.mem_of_getElem? h, rfl⟩
 have h2 := part_le h1
 simp only [Rows.uptoBulk]
 omega
set_option maxHeartbeats 1000000 in
set_option maxRecDepth 100000 in
theorem open_op {H : Type} {enc : TypeId × Value → H} {W : World} {n : Nat} {cs : List Value} {D : DataW H} {Pl : List MemPlace} (h : DataW.trod enc Try.prog W 0 (fun _ => true) true n 64 cs = some (D, Pl)) (hb : Rows.uptoBulk D ≤ 1048576) : ∃ o : OpS, cs = o.cells.toList ∧ OpArg W o := by
 obtain ⟨ys, k, _, hD, hcl, hyl, hf⟩ := DataW.trod_struct Try.underlying64 h
 rw [co64] at hcl
 obtain ⟨a0, a1, a2, a3, a4, a5, a6, a7, a8, a9, a10, a11, rfl⟩ := twelve cs hcl
 have hyl' : ys.length = 5 := hyl
 obtain ⟨y0, y1, y2, y3, y4, rfl⟩ := ProBc.five ys hyl'
 simp only [Prod.mk.injEq] at hD
 obtain ⟨hD, _⟩ := hD
 have f0 := hf 0 { name := "Kind", type := 3, offset := 0, embedded := false, tag := "", pkgPath := "", byteOffset := 0 } rfl
 dsimp only at f0
 have f1 := hf 1 { name := "P", type := 3, offset := 1, embedded := false, tag := "", pkgPath := "", byteOffset := 8 } rfl
 dsimp only at f1
 have f2 := hf 2 { name := "Data", type := 22, offset := 2, embedded := false, tag := "", pkgPath := "", byteOffset := 16 } rfl
 dsimp only at f2
 have f3 := hf 3 { name := "M", type := 35, offset := 3, embedded := false, tag := "", pkgPath := "", byteOffset := 40 } rfl
 dsimp only at f3
 have f4 := hf 4 { name := "R", type := 44, offset := 8, embedded := false, tag := "", pkgPath := "", byteOffset := 104 } rfl
 dsimp only at f4
 simp only [co3, co22, co35, co44, List.drop_zero, List.drop_succ_cons, List.take_succ_cons, List.take_zero, List.getElem?_cons_zero, List.getElem?_cons_succ] at f0 f1 f2 f3 f4
 obtain ⟨n0, e0, _, _⟩ := DataW.trod_int (k := .i64) (by kernel_rfl) f0
 obtain ⟨n1, e1, _, w1⟩ := DataW.trod_int (k := .i64) (by kernel_rfl) f1
 obtain ⟨A2, c2, x2, e2, r2, l2, u2, b2⟩ := ProBc.inner_bytes f2
 obtain ⟨zs, k3, _, hD3, _, hzl, hg⟩ := DataW.trod_struct Try.underlying35 f3
 have hzl' : zs.length = 5 := hzl
 obtain ⟨z0, z1, z2, z3, z4, rfl⟩ := ProBc.five zs hzl'
 have g0 := hg 0 { name := "Kind", type := 3, offset := 0, embedded := false, tag := "", pkgPath := "", byteOffset := 0 } rfl
 dsimp only at g0
 have g1 := hg 1 { name := "Tenant", type := 3, offset := 1, embedded := false, tag := "", pkgPath := "", byteOffset := 8 } rfl
 dsimp only at g1
 have g2 := hg 2 { name := "Name", type := 9, offset := 2, embedded := false, tag := "", pkgPath := "", byteOffset := 16 } rfl
 dsimp only at g2
 have g3 := hg 3 { name := "N", type := 3, offset := 3, embedded := false, tag := "", pkgPath := "", byteOffset := 32 } rfl
 dsimp only at g3
 have g4 := hg 4 { name := "Data", type := 22, offset := 4, embedded := false, tag := "", pkgPath := "", byteOffset := 40 } rfl
 dsimp only at g4
 simp only [co3, co9, co22, List.drop_zero, List.drop_succ_cons, List.take_succ_cons, List.take_zero, List.getElem?_cons_zero, List.getElem?_cons_succ] at g0 g1 g2 g3 g4
 obtain ⟨n3, e3, _, _⟩ := DataW.trod_int (k := .i64) (by kernel_rfl) g0
 obtain ⟨n4, e4, _, _⟩ := DataW.trod_int (k := .i64) (by kernel_rfl) g1
 obtain ⟨s5, e5, q5, _⟩ := DataW.trod_string (by kernel_rfl) g2
 obtain ⟨n6, e6, _, _⟩ := DataW.trod_int (k := .i64) (by kernel_rfl) g3
 obtain ⟨A7, c7, x7, e7, r7, l7, u7, b7⟩ := ProBc.inner_bytes g4
 obtain ⟨vs, k4, _, hD4, _, hvl, hq⟩ := DataW.trod_struct Try.underlying44 f4
 have hvl' : vs.length = 4 := hvl
 obtain ⟨v0, v1, v2, v3, rfl⟩ : ∃ a b c d, vs = [a, b, c, d] := by
  match vs, hvl' with
  | [a, b, c, d], _ => exact ⟨a, b, c, d, rfl⟩
 have p0 := hq 0 { name := "Kind", type := 3, offset := 0, embedded := false, tag := "", pkgPath := "", byteOffset := 0 } rfl
 dsimp only at p0
 have p1 := hq 1 { name := "N", type := 3, offset := 1, embedded := false, tag := "", pkgPath := "", byteOffset := 8 } rfl
 dsimp only at p1
 have p2 := hq 2 { name := "M", type := 3, offset := 2, embedded := false, tag := "", pkgPath := "", byteOffset := 16 } rfl
 dsimp only at p2
 have p3 := hq 3 { name := "Data", type := 22, offset := 3, embedded := false, tag := "", pkgPath := "", byteOffset := 24 } rfl
 dsimp only at p3
 simp only [co3, co22, List.drop_zero, List.drop_succ_cons, List.take_succ_cons, List.take_zero, List.getElem?_cons_zero, List.getElem?_cons_succ] at p0 p1 p2 p3
 obtain ⟨n8, e8, _, _⟩ := DataW.trod_int (k := .i64) (by kernel_rfl) p0
 obtain ⟨n9, e9, _, _⟩ := DataW.trod_int (k := .i64) (by kernel_rfl) p1
 obtain ⟨n10, e10, _, _⟩ := DataW.trod_int (k := .i64) (by kernel_rfl) p2
 obtain ⟨A11, c11, x11, e11, r11, l11, u11, b11⟩ := ProBc.inner_bytes p3
 simp at e0 e1 e3 e4 e5 e6 e8 e9 e10
 subst e0 e1 e2 e3 e4 e5 e6 e7 e8 e9 e10 e11
 have t2 := bulk_mem (ys := [y0, y1, y2, y3, y4]) (i := 2) rfl
 have t3 := bulk_mem (ys := [y0, y1, y2, y3, y4]) (i := 3) rfl
 have t4 := bulk_mem (ys := [y0, y1, y2, y3, y4]) (i := 4) rfl
 rw [← hD] at t2 t3 t4
 have t7 := bulk_mem (ys := [z0, z1, z2, z3, z4]) (i := 4) rfl
 have t5 := bulk_mem (ys := [z0, z1, z2, z3, z4]) (i := 2) rfl
 have t11 := bulk_mem (ys := [v0, v1, v2, v3]) (i := 3) rfl
 have h3 : y3.1 = DataW.agg ([z0, z1, z2, z3, z4].map (·.1)) := by rw [hD3]
 have h4 : y4.1 = DataW.agg ([v0, v1, v2, v3].map (·.1)) := by rw [hD4]
 rw [← h3] at t7 t5
 rw [← h4] at t11
 have h5 : s5.size + 1 = Rows.uptoBulk z2.1 := by rw [q5]; simp [Rows.uptoBulk]
 refine ⟨⟨n0, n1, ⟨A2, x2.length, c2⟩, x2, n3, n4, s5, n6, ⟨A7, x7.length, c7⟩, x7, n8, n9, n10, ⟨A11, x11.length, c11⟩, x11⟩, rfl, ⟨bytesSl (ProN.BytesAt.of r2) l2, bytesSl (ProN.BytesAt.of r7) l7, bytesSl (ProN.BytesAt.of r11) l11, u2, u7, u11, by dsimp only; omega, by dsimp only; omega, by dsimp only; omega, by dsimp only; omega, wf64 w1⟩⟩
set_option maxHeartbeats 1000000 in
set_option maxRecDepth 100000 in
theorem open_ops {H : Type} {enc : TypeId × Value → H} {W : World} {v : Value} {d : DataW H} {p : List MemPlace} (hv : Value.okWide Try.prog W .any 0 49 v) (h : DataW.Trod enc Try.prog W 0 (fun _ => true) true 49 v d p) (hb : Rows.uptoBulk d ≤ 1048576) :
  ∃ (A : Option Addr) (c : Nat) (os : List OpS), v = .slice A os.length c ∧ opK.C W A os.length os ∧ os.length ≤ c ∧ (∀ o ∈ os, OpArg W o) ∧ os.length ≤ 1048576 := by
 obtain ⟨A, n, c, rfl⟩ := okWide_slice Try.underlying49 hv
 obtain ⟨fuel, hf⟩ := h
 rcases open_slice Try.underlying49 hf with ⟨hcs, _⟩ | ⟨a, len, cap, m, k, D, Pl, hcs, _, hl, hm, hmm, hx, hi⟩
 ·
  simp [Value.cells] at hcs
  obtain ⟨rfl, rfl, rfl⟩ := hcs
  exact ⟨none, 0, [], rfl, Kd.C_nil _ _, by simp, by simp, by simp⟩
 ·
  simp [Value.cells] at hcs
  obtain ⟨rfl, rfl, rfl⟩ := hcs
  have hcm : c = m := by rw [hmm]; simp
  simp only [Prod.mk.injEq] at hx
  have hd := hx.1
  have hbd : ∀ i, i < n → Rows.uptoBulk (D i) ≤ 1048576 := fun i hin => by
   have h1 := part_le (show D i ∈ (List.range n).map D from List.mem_map.2 ⟨i, List.mem_range.2 hin, rfl⟩)
   rw [hd] at hb
   simp only [Rows.uptoBulk] at hb
   omega
  have hnb : n ≤ 1048576 := by
   have h1 := length_le ((List.range n).map D)
   rw [hd] at hb
   simp only [Rows.uptoBulk] at hb
   simp at h1
   omega
  have hP : ∀ (i q : Nat), (List.range n)[i]? = some q → ∃ o : OpS, (∀ j u, o.cells.toList[j]? = some u → W.cell? (a.add (i * 12 + j)) = some u) ∧ OpArg W o := by
   intro i q hq
   have hin : i < n := by have := (List.getElem?_eq_some_iff.1 hq).1; simpa using this
   obtain ⟨cs', hc, ht⟩ := hi i (by omega)
   rw [co64] at hc
   obtain ⟨o, rfl, ho⟩ := open_op ht (hbd i hin)
   obtain ⟨_, hcl, hat⟩ := World.cells?_some hc
   refine ⟨o, fun j u hj => ?_, ho⟩
   have hjl : j < 12 := (List.getElem?_eq_some_iff.1 hj).1
   have := hat j hjl
   rw [Go.Deep.add_add] at this
   rw [this, hj]
  obtain ⟨os, hol, hos⟩ := list_choice (List.range n) hP
  rw [List.length_range] at hol
  subst hol
  refine ⟨some a, c, os, rfl, ⟨rfl, by unfold maxLen at hm; omega, fun _ => ⟨a, rfl, fun j o hj => ?_⟩⟩, hl, fun o hm9 => ?_, hnb⟩
  ·
   have hjl := (List.getElem?_eq_some_iff.1 hj).1
   exact ⟨o.cells.toList, rfl, rfl, (hos j j o (List.getElem?_range hjl) hj).1⟩
  ·
   obtain ⟨j, hj⟩ := List.getElem?_of_mem hm9
   have hjl := (List.getElem?_eq_some_iff.1 hj).1
   exact (hos j j o (List.getElem?_range hjl) hj).2
end Go.Proofs.Ytpflenaoplblkaa.PcCa
end
section
namespace Go.Proofs.Ytpflenaoplblkaa.PcC
open Go.RowKit YtpflenaoplblkaaW.PrintWords YtpflenaoplblkaaW.PrintLast ProA ProB ProC ProI ProD ProG ProJ ProK ProL ProM ProN ProO ProP ProQ ProR ProU ProZ ProBb PaA
open ProH (msgTab repTab ba)
open ProS PaI PaJ PaK PaL
open PaM PaN PaO PaP PaQ PaR PaS PaT PaU PaV PaWa PaW PaXa PaX PaYa PaYb PaY PaZa PaZ PaD PcA PcBa PcB PcCa
set_option linter.unusedVariables false
set_option linter.unusedSimpArgs false
theorem st_nil (w : World) (g : Nat) (own : Nat → Nat) (hb : Blk w g (⟨nilS, nilS, nilS, nilS, nilS, nilS, nilS, nilS, nilS, nilS, nilS, nilS, nilS, nilS⟩ : St).cells 61) (hg : own g = 2) : WInv w g own ⟨nilS, nilS, nilS, nilS, nilS, nilS, nilS, nilS, nilS, nilS, nilS, nilS, nilS, nilS⟩ ⟨[], [], [], [], [], [], [], [], [], [], [], [], [], []⟩ :=
  { blk := hb
    og := hg
    l := ⟨Kd.R_nil _ _ _ _ _, fun i p hp => by simp at hp⟩
    f0 := ⟨Kd.R_nil _ _ _ _ _, fun i p hp => by simp at hp⟩
    f1 := ⟨Kd.R_nil _ _ _ _ _, fun p hp => by simp at hp⟩
    t0 := ⟨Kd.R_nil _ _ _ _ _, fun i p hp => by simp at hp⟩
    t1 := ⟨Kd.R_nil _ _ _ _ _, fun p hp => by simp at hp⟩
    a0 := ⟨Kd.R_nil _ _ _ _ _, fun i p hp => by simp at hp⟩
    a1 := ⟨Kd.R_nil _ _ _ _ _, fun p hp => by simp at hp⟩
    b := ⟨Kd.R_nil _ _ _ _ _, fun p hp => by simp at hp⟩
    m := ⟨Kd.R_nil _ _ _ _ _, fun p hp => by simp at hp⟩
    r := ⟨Kd.R_nil _ _ _ _ _, fun p hp => by simp at hp⟩
    k0 := Kd.R_nil _ _ _ _ _
    k1 := Kd.R_nil _ _ _ _ _
    k2 := Kd.R_nil _ _ _ _ _
    e := ⟨Kd.R_nil _ _ _ _ _, fun i p hp => by simp at hp⟩ }
theorem gd_nil : Gd ⟨[], [], [], [], [], [], [], [], [], [], [], [], [], []⟩ 0 :=
  ⟨rfl, rfl, rfl, by simp, by simp, ⟨rfl, rfl, rfl, by simp, by simp, by simp, by simp⟩, by simp, by simp, by simp, by simp, by simp, by simp, by simp, by simp, by simp, by simp, by simp, by simp⟩
theorem big_below {w w2 w' : World} {o' : Nat → Nat} (h : Kp big w2 (fun _ => 27) w' o') (hb : Below w.heap.size w w2) : Below w.heap.size w w' :=
  hb.trans ⟨h.os, h.tape, h.output, h.size, fun k hk => (h.block k (Nat.lt_of_lt_of_le hk hb.size) (by unfold big; decide)).2⟩
theorem op_at {w : World} {A : Option Addr} {n : Nat} {os : List OpS} (h : opK.C w A n os) (j : Nat) (hj : j < n) (o : OpS) (ho : os[j]? = some o) : ∃ ad, A = some ad ∧ ∀ i u, o.cells.toList[i]? = some u → w.cell? (ad.add (j * 12 + i)) = some u := by
 obtain ⟨ad, e, hc⟩ := h.2.2 (by omega)
 obtain ⟨c, hl, hK, hcell⟩ := hc j o ho
 have hK' : c = o.cells.toList := hK
 subst hK'
 exact ⟨ad, e, hcell⟩
set_option maxHeartbeats 8000000 in
set_option maxRecDepth 100000 in
theorem all_walk (w : World) (A : Option Addr) (c : Nat) (os : List OpS) (hC : opK.C w A os.length os) (hc : os.length ≤ c) (ha : ∀ o ∈ os, OpArg w o) (hn : os.length ≤ 1048576) :
  Calls Try.prog 7 #[.slice A os.length c] w fun e w' => e = .returned (.bool true) ∧ Below w.heap.size w w' := by
 have HC := Lib.hid hC
 have HA := Lib.hid ha
 clear hC ha
 go_enter Try.func7, Try.ntmps7
 go_upto_region 2 with (go_at_call 19; refine Calls.mono (PProtoAll.arcadelaw12_first.calls _ w rfl) ?_; rintro e w1 ⟨v, rfl, hN, hb1⟩)
 obtain ⟨os1, hR1, hl1, ha1⟩ := of_first hN rfl
 have HR1 := Lib.hid (Kd.R_mono hR1 (ok' := fun _ => True) (fun _ _ => trivial))
 have HC1 := Lib.hid (show opK.C w1 A os.length os from Kd.C_below HC.out hb1)
 have HA1 := Lib.hid ha1
 have HB1 := Lib.hid hb1
 have HL1 := Lib.hid hl1
 clear hN hR1 hl1 ha1 hb1
 go_wp2_with ((with_reducible refine gate_builtin (b := .append) (xs := #[.tmp 8, .tmp 9]) rfl ?_); at_builtin; refine Kd.R_append_rows opK (Rr := opK.K _) (w0 := w) w.heap.size rfl (.tmp 8) (.tmp 9) 49 64 (.agg #[.int .i64 0, .int .i64 0, .slice none 0 0, .int .i64 0, .int .i64 0, .string ⟨#[]⟩, .int .i64 0, .slice none 0 0, .int .i64 0, .int .i64 0, .int .i64 0, .slice none 0 0]) 152 rfl Try.underlying49 PProtoAll.info64 rfl (by decide) (by decide) v os1 os A os.length c (fun _ => True) (fun _ => False) rfl rfl HR1.out HC1.out (fun _ _ hh => hh) (fun _ hk => hk.elim) (fun _ _ => trivial) HB1.out HB1.out.size (by have := HL1.out; omega) ?_; intro v2 w2 hR2 hb2 hg2 _; have HR2 := Lib.hid hR2; have HB2 := Lib.hid hb2; have HA2 := Lib.hid (show ∀ o ∈ os1 ++ os, OpArg w2 o from fun o ho => (List.mem_append.1 ho).elim (HA1.out w2 hg2 o) (fun hm => (HA.out o hm).below HB2.out)); clear hR2 hb2 hg2)
 obtain ⟨N, hN⟩ : ∃ N, N = (os1 ++ os).length := ⟨_, rfl⟩
 have hNl : N ≤ 1048583 := by rw [hN, List.length_append]; have := HL1.out; omega
 obtain ⟨ops, hops⟩ : ∃ ops, ops = os1 ++ os := ⟨_, rfl⟩
 simp only [← hops] at HR2 HA2 hN
 clear hops
 obtain ⟨A2, c2, hv2, hc2, hC2⟩ := Kd.R_reads HR2.out
 rw [← hN] at hv2 hc2 hC2
 subst hv2
 have HCX := Lib.hid hC2
 have HN := Lib.hid hN
 clear hC2 hN HR2 HC HA HC1 HA1 HR1 HB1 HL1
 obtain ⟨g, hg⟩ : ∃ g, g = w2.heap.size := ⟨_, rfl⟩
 have HW3 := st_nil (w2.alloc (.cells #[.slice none 0 0, .slice none 0 0, .slice none 0 0, .slice none 0 0, .slice none 0 0, .slice none 0 0, .slice none 0 0, .slice none 0 0, .slice none 0 0, .slice none 0 0, .slice none 0 0, .slice none 0 0, .slice none 0 0, .slice none 0 0] 61)) g (tagged w2 (fun _ => 27) 2) (by rw [hg]; exact blkNew rfl) (by rw [hg]; exact tagged_new (Nat.le_refl _))
 have HK3 : Kp big w2 (fun _ => 27) (w2.alloc (.cells #[.slice none 0 0, .slice none 0 0, .slice none 0 0, .slice none 0 0, .slice none 0 0, .slice none 0 0, .slice none 0 0, .slice none 0 0, .slice none 0 0, .slice none 0 0, .slice none 0 0, .slice none 0 0, .slice none 0 0, .slice none 0 0] 61)) (tagged w2 (fun _ => 27) 2) := Kp.below (Below.alloc (Below.refl w2.heap.size w2) (Nat.le_refl _) _) 2
 simp only [← hg]
 clear hg
 generalize w2.alloc (.cells #[.slice none 0 0, .slice none 0 0, .slice none 0 0, .slice none 0 0, .slice none 0 0, .slice none 0 0, .slice none 0 0, .slice none 0 0, .slice none 0 0, .slice none 0 0, .slice none 0 0, .slice none 0 0, .slice none 0 0, .slice none 0 0] 61) = w3 at HW3 HK3 ⊢
 generalize tagged w2 (fun _ => 27) 2 = o3 at HW3 HK3
 go_loopw [5, 6] (fun b i wr => ∃ (j : Nat) (q : Nat → Nat) (s' : St) (h' : Gh), j ≤ N ∧ i = .int .i64 (j : Int) ∧ b = .bool true ∧ WInv wr g q s' h' ∧ Gd h' j ∧ Kp big w2 (fun _ => 27) wr q) (fun _ i _ => N - (intOf i).toNat)
 case atStart => exact ⟨0, o3, _, _, by omega, rfl, rfl, HW3, gd_nil, HK3⟩
 case round =>
  clear HW3 HK3
  obtain ⟨j, q, s', h', hj, rfl, rfl, HW, HG, HK⟩ := hrel
  by_cases hlt : j < N
  ·
   have dl : decide ((j : Int) < (N : Int)) = true := by simp; omega
   have hji : (j : Int) < (N : Int) := by omega
   obtain ⟨o, ho⟩ : ∃ o, ops[j]? = some o := ⟨ops[j]'(by rw [← HN.out]; exact hlt), List.getElem?_eq_getElem _⟩
   have hCr : opK.C wr A2 N ops := C_move opK_K HCX.out (by decide) (fun a ha hn9 => (HK.block a.block (C_lt HCX.out (by decide) a ha hn9) (by unfold big; decide)).2)
   obtain ⟨ad, rfl, hcell⟩ := op_at hCr j hlt o ho
   have hOa := HA2.out o (List.mem_of_getElem? ho)
   have HOK := Lib.hid ((hOa.ok (own := fun _ => 27) (fun _ _ => rfl)).keep HK (by unfold big; decide))
   have HPP := Lib.hid hOa.pp
   clear hCr hOa ho
   have y0 : wr.cell? (ad.add (j * 12)) = some (.int .i64 o.kd) := hcell 0 _ rfl
   have y1 : wr.cell? ⟨(ad.add (j * 12)).block, (ad.add (j * 12)).off + 1, none⟩ = some (.int .i64 o.pp) := by rw [← add_field _ _ 1 (by omega)]; exact hcell 1 _ rfl
   have y2 : wr.cell? ⟨(ad.add (j * 12)).block, (ad.add (j * 12)).off + 2, none⟩ = some (.slice o.d.A o.d.n o.d.c) := by rw [← add_field _ _ 2 (by omega)]; exact hcell 2 _ rfl
   have y3 : wr.cell? ⟨(ad.add (j * 12)).block, (ad.add (j * 12)).off + 3, none⟩ = some (.int .i64 o.m0) := by rw [← add_field _ _ 3 (by omega)]; exact hcell 3 _ rfl
   have y4 : wr.cell? ⟨(ad.add (j * 12)).block, (ad.add (j * 12)).off + 4, none⟩ = some (.int .i64 o.m1) := by rw [← add_field _ _ 4 (by omega)]; exact hcell 4 _ rfl
   have y5 : wr.cell? ⟨(ad.add (j * 12)).block, (ad.add (j * 12)).off + 5, none⟩ = some (.string o.m2) := by rw [← add_field _ _ 5 (by omega)]; exact hcell 5 _ rfl
   have y6 : wr.cell? ⟨(ad.add (j * 12)).block, (ad.add (j * 12)).off + 6, none⟩ = some (.int .i64 o.m3) := by rw [← add_field _ _ 6 (by omega)]; exact hcell 6 _ rfl
   have y7 : wr.cell? ⟨(ad.add (j * 12)).block, (ad.add (j * 12)).off + 7, none⟩ = some (.slice o.md.A o.md.n o.md.c) := by rw [← add_field _ _ 7 (by omega)]; exact hcell 7 _ rfl
   have y8 : wr.cell? ⟨(ad.add (j * 12)).block, (ad.add (j * 12)).off + 8, none⟩ = some (.int .i64 o.r0) := by rw [← add_field _ _ 8 (by omega)]; exact hcell 8 _ rfl
   have y9 : wr.cell? ⟨(ad.add (j * 12)).block, (ad.add (j * 12)).off + 9, none⟩ = some (.int .i64 o.r1) := by rw [← add_field _ _ 9 (by omega)]; exact hcell 9 _ rfl
   have y10 : wr.cell? ⟨(ad.add (j * 12)).block, (ad.add (j * 12)).off + 10, none⟩ = some (.int .i64 o.r2) := by rw [← add_field _ _ 10 (by omega)]; exact hcell 10 _ rfl
   have y11 : wr.cell? ⟨(ad.add (j * 12)).block, (ad.add (j * 12)).off + 11, none⟩ = some (.slice o.rd.A o.rd.n o.rd.c) := by rw [← add_field _ _ 11 (by omega)]; exact hcell 11 _ rfl
   clear hcell
   go_upto_region 9 with (go_at_call 20; refine Calls.mono (step_ok wr g j q s' h' o HW HG (by omega) HOK.out HPP.out) ?_; rintro e w4 ⟨rfl, q4, s4, h4, HW4, HG4, hk4⟩)
   clear y0 y1 y2 y3 y4 y5 y6 y7 y8 y9 y10 y11 HOK HPP
   have HK4 := HK.trans hk4
   clear hk4 HW HG HK
   obtain ⟨B1, e1, _, k1, _⟩ := row_at (i := 1) HW4.blk rfl HW4.f0.1
   obtain ⟨B3, e3, _, k3, _⟩ := row_at (i := 3) HW4.blk rfl HW4.t0.1
   obtain ⟨B5, e5, _, k5, _⟩ := row_at (i := 5) HW4.blk rfl HW4.a0.1
   rw [List.length_map] at k1 k3 k5
   have hsm := HG4.sm (by omega)
   have lF := hsm.F
   have lT := hsm.T
   have lA := hsm.A
   have s1 : IntKind.i64.wrap ((h4.F.length : Int) + (h4.T.length : Int)) = (h4.F.length : Int) + (h4.T.length : Int) := IntWalk.i64_in _ (by omega)
   have s2 : IntKind.i64.wrap ((h4.F.length : Int) + (h4.T.length : Int) + (h4.A.length : Int)) = (h4.F.length : Int) + (h4.T.length : Int) + (h4.A.length : Int) := IntWalk.i64_in _ (by omega)
   by_cases hs : 6 < (h4.F.length : Int) + (h4.T.length : Int) + (h4.A.length : Int)
   ·
    have ds : decide (6 < (h4.F.length : Int) + (h4.T.length : Int) + (h4.A.length : Int)) = true := decide_eq_true hs
    clear hs
    go_quiet (fail)
    have hbd : Below w4.heap.size w4 (w4.drewN nq) := ⟨rfl, rfl, rfl, Nat.le_refl _, fun _ _ => rfl⟩
    have hkd := Kp.below (ts := fun _ => False) (own := q4) hbd 24
    have HW5 := HW4.keep (hkd.mono (fun q hq => hq.elim))
    have HK5 := HK4.trans (hkd.mono (ts' := big) (fun q hq => hq.elim))
    clear hbd hkd HW4 HK4 k1 k3 k5
    generalize w4.drewN nq = w5 at HW5 HK5 ⊢
    generalize tagged w4 q4 24 = q5 at HW5 HK5
    have hB5 := HG4.sB
    have hM5 := HG4.sM
    have hR5 := HG4.sR
    go_upto_region 11 with (go_at_call 21; refine Calls.mono (settle_ok w5 g q5 s4 h4 HW5 (HG4.same HW5) hsm HG4.lk (by omega) (by omega) (by omega)) ?_; rintro e w6 ⟨rfl, q6, s6, h6, HW6, hlk6, he6, hL6, hE6, hl6, hx6, hk6⟩)
    have HG6 := HG4.settled hlk6 he6 hL6 hE6 hl6 hx6
    have HK6 := HK5.trans hk6
    clear hlk6 he6 hL6 hE6 hl6 hx6 hk6 HW5 HK5 HG4 ds
    go_wp2_with (go_at_call 22; refine Calls.mono (looks_ok w6 g q6 s6 h6 HW6 HG6.lk (HG6.sm (by omega))) ?_; rintro e w7 ⟨rfl, hb7⟩)
    have hkd := Kp.below (ts := fun _ => False) (own := q6) hb7 24
    exact ⟨⟨j + 1, _, s6, h6, by omega, by go_num, rfl, HW6.keep (hkd.mono (fun q hq => hq.elim)), HG6, HK6.trans (hkd.mono (fun q hq => hq.elim))⟩, by simp [intOf]; omega⟩
   ·
    have ds : decide (6 < (h4.F.length : Int) + (h4.T.length : Int) + (h4.A.length : Int)) = false := decide_eq_false hs
    clear hs
    go_quiet (fail)
    have hbd : Below w4.heap.size w4 (w4.drewN nq) := ⟨rfl, rfl, rfl, Nat.le_refl _, fun _ _ => rfl⟩
    have hkd := Kp.below (ts := fun _ => False) (own := q4) hbd 24
    have HW5 := HW4.keep (hkd.mono (fun q hq => hq.elim))
    have HK5 := HK4.trans (hkd.mono (ts' := big) (fun q hq => hq.elim))
    clear hbd hkd HW4 HK4 k1 k3 k5
    generalize w4.drewN nq = w5 at HW5 HK5 ⊢
    generalize tagged w4 q4 24 = q5 at HW5 HK5
    go_wp2_with (go_at_call 22; refine Calls.mono (looks_ok w5 g q5 s4 h4 HW5 HG4.lk hsm) ?_; rintro e w7 ⟨rfl, hb7⟩)
    have hkd := Kp.below (ts := fun _ => False) (own := q5) hb7 24
    exact ⟨⟨j + 1, _, s4, h4, by omega, by go_num, rfl, HW5.keep (hkd.mono (fun q hq => hq.elim)), HG4, HK5.trans (hkd.mono (fun q hq => hq.elim))⟩, by simp [intOf]; omega⟩
  ·
   obtain rfl : j = N := by omega
   have dl : decide ((j : Int) < (j : Int)) = false := by simp
   have hsm := HG.sm (by omega)
   have hB5 := HG.sB
   have hM5 := HG.sM
   have hR5 := HG.sR
   go_wp2_with (go_at_call 21; refine Calls.mono (settle_ok wr g q s' h' HW (HG.same HW) hsm HG.lk (by omega) (by omega) (by omega)) ?_; rintro e w6 ⟨rfl, q6, s6, h6, HW6, hlk6, he6, hL6, hE6, hl6, hx6, hk6⟩)
   go_ret
   exact ⟨rfl, big_below (HK.trans hk6) HB2.out⟩
end Go.Proofs.Ytpflenaoplblkaa.PcC
end
