import Derived.Defers
import Derived.Recover
import Derived.Deep.Cut
import Derived.Laws.BytesArg
import Derived.Test.YtpflenaoplblkaaGAc
section
namespace Go.Proofs.Ytpflenaoplblkaa.ProH
open Go.RowKit YtpflenaoplblkaaW.PrintWords YtpflenaoplblkaaW.PrintLast ProA ProB ProC ProG
set_option linter.unusedVariables false
set_option linter.unusedSimpArgs false
def RowAt (w : World) (lo hi : Nat) (v : Value) (ps : List PS) : Prop :=
 ∃ A c, v = .slice A ps.length c ∧ ∀ i p, ps[i]? = some p → ∃ g, A = some ⟨g, 0, none⟩ ∧ lo ≤ g ∧ g < hi ∧ ∃ f0 f1 f2 f3,
  w.cell? ⟨g, 4 * i, none⟩ = some f0 ∧ w.cell? ⟨g, 4 * i + 1, none⟩ = some f1 ∧ w.cell? ⟨g, 4 * i + 2, none⟩ = some f2 ∧ w.cell? ⟨g, 4 * i + 3, none⟩ = some f3 ∧ PartAt w lo hi (.agg #[f0, f1, f2, f3]) p
def TabAt (w : World) (lo hi : Nat) (v : Value) (tab : List (List PS)) : Prop :=
  ∃ g c, v = .slice (some ⟨g, 0, none⟩) tab.length c ∧ lo ≤ g ∧ g < hi ∧ ∀ i ps, tab[i]? = some ps → ∃ rv, w.cell? ⟨g, i, none⟩ = some rv ∧ RowAt w lo hi rv ps
theorem cell_keep {w w' : World} {g i : Nat} {v : Value} (h : w.cell? ⟨g, i, none⟩ = some v) (hb : w'.heap[g]? = w.heap[g]?) : w'.cell? ⟨g, i, none⟩ = some v := (World.cell?_of_block (w := w) hb).trans h
theorem RowAt.step {w w' : World} {lo hi lo' hi' : Nat} {v : Value} {ps : List PS} (h : RowAt w lo hi v ps) (hb : ∀ k, lo ≤ k → k < hi → w'.heap[k]? = w.heap[k]?) (h1 : lo' ≤ lo) (h2 : hi ≤ hi') : RowAt w' lo' hi' v ps := by
 obtain ⟨A, c, rfl, hp⟩ := h
 refine ⟨A, c, rfl, fun i p hi => ?_⟩
 obtain ⟨g, e, g1, g2, f0, f1, f2, f3, c0, c1, c2, c3, hpt⟩ := hp i p hi
 have := hb g g1 g2
 exact ⟨g, e, by omega, by omega, f0, f1, f2, f3, cell_keep c0 this, cell_keep c1 this, cell_keep c2 this, cell_keep c3 this, hpt.step hb h1 h2⟩
theorem TabAt.step {w w' : World} {lo hi lo' hi' : Nat} {v : Value} {tab : List (List PS)} (h : TabAt w lo hi v tab) (hb : ∀ k, lo ≤ k → k < hi → w'.heap[k]? = w.heap[k]?) (h1 : lo' ≤ lo) (h2 : hi ≤ hi') : TabAt w' lo' hi' v tab := by
 obtain ⟨g, c, rfl, g1, g2, hp⟩ := h
 refine ⟨g, c, rfl, by omega, by omega, fun i ps hi => ?_⟩
 obtain ⟨rv, hc, hr⟩ := hp i ps hi
 exact ⟨rv, cell_keep hc (hb g g1 g2), hr.step hb h1 h2⟩
theorem rowNil {w : World} {lo hi : Nat} {A : Option Addr} {c : Nat} : RowAt w lo hi (.slice A 0 c) [] := ⟨A, c, rfl, fun i p hi => by simp at hi⟩
theorem row1 {w : World} {lo hi g : Nat} {f0 f1 f2 f3 : Value} {p : PS} (hb : Blk w g #[f0, f1, f2, f3] 91) (h1 : lo ≤ g) (h2 : g < hi) (hp : PartAt w lo hi (.agg #[f0, f1, f2, f3]) p) {c : Nat} : RowAt w lo hi (.slice (some ⟨g, 0, none⟩) 1 c) [p] := by
 refine ⟨_, c, rfl, fun i q hi => ?_⟩
 obtain rfl : i = 0 := by have := (List.getElem?_eq_some_iff.1 hi).1; simp at this; exact this
 obtain rfl : p = q := by simpa using hi
 exact ⟨g, rfl, h1, h2, f0, f1, f2, f3, Blk.cell hb rfl, Blk.cell hb rfl, Blk.cell hb rfl, Blk.cell hb rfl, hp⟩
theorem row2 {w : World} {lo hi g : Nat} {f0 f1 f2 f3 e0 e1 e2 e3 : Value} {p q : PS} (hb : Blk w g #[f0, f1, f2, f3, e0, e1, e2, e3] 91) (h1 : lo ≤ g) (h2 : g < hi) (hp : PartAt w lo hi (.agg #[f0, f1, f2, f3]) p) (hq : PartAt w lo hi (.agg #[e0, e1, e2, e3]) q) {c : Nat} : RowAt w lo hi (.slice (some ⟨g, 0, none⟩) 2 c) [p, q] := by
 refine ⟨_, c, rfl, fun i r hi => ?_⟩
 have hlt := (List.getElem?_eq_some_iff.1 hi).1
 simp at hlt
 have : i = 0 ∨ i = 1 := by omega
 rcases this with rfl | rfl
 ·
  obtain rfl : p = r := by simpa using hi
  exact ⟨g, rfl, h1, h2, f0, f1, f2, f3, Blk.cell hb rfl, Blk.cell hb rfl, Blk.cell hb rfl, Blk.cell hb rfl, hp⟩
 ·
  obtain rfl : q = r := by simpa using hi
  exact ⟨g, rfl, h1, h2, e0, e1, e2, e3, Blk.cell hb rfl, Blk.cell hb rfl, Blk.cell hb rfl, Blk.cell hb rfl, hq⟩
theorem row3 {w : World} {lo hi g : Nat} {f0 f1 f2 f3 e0 e1 e2 e3 d0 d1 d2 d3 : Value} {p q s : PS} (hb : Blk w g #[f0, f1, f2, f3, e0, e1, e2, e3, d0, d1, d2, d3] 91) (h1 : lo ≤ g) (h2 : g < hi) (hp : PartAt w lo hi (.agg #[f0, f1, f2, f3]) p) (hq : PartAt w lo hi (.agg #[e0, e1, e2, e3]) q) (hs : PartAt w lo hi (.agg #[d0, d1, d2, d3]) s) {c : Nat} : RowAt w lo hi (.slice (some ⟨g, 0, none⟩) 3 c) [p, q, s] := by
 refine ⟨_, c, rfl, fun i r hi => ?_⟩
 have hlt := (List.getElem?_eq_some_iff.1 hi).1
 simp at hlt
 have : i = 0 ∨ i = 1 ∨ i = 2 := by omega
 rcases this with rfl | rfl | rfl
 ·
  obtain rfl : p = r := by simpa using hi
  exact ⟨g, rfl, h1, h2, f0, f1, f2, f3, Blk.cell hb rfl, Blk.cell hb rfl, Blk.cell hb rfl, Blk.cell hb rfl, hp⟩
 ·
  obtain rfl : q = r := by simpa using hi
  exact ⟨g, rfl, h1, h2, e0, e1, e2, e3, Blk.cell hb rfl, Blk.cell hb rfl, Blk.cell hb rfl, Blk.cell hb rfl, hq⟩
 ·
  obtain rfl : s = r := by simpa using hi
  exact ⟨g, rfl, h1, h2, d0, d1, d2, d3, Blk.cell hb rfl, Blk.cell hb rfl, Blk.cell hb rfl, Blk.cell hb rfl, hs⟩
theorem bt {a b c : World} (h : Below a.heap.size a b) (g : Below b.heap.size b c) : Below a.heap.size a c := h.trans (g.mono h.size)
theorem ba {a : World} (o : Obj) : Below a.heap.size a (a.alloc o) := (Below.refl _ _).alloc (Nat.le_refl _) o
def RowsAt (w : World) (lo hi : Nat) : List Value → List (List PS) → Prop
 | [], [] => True
 | r :: rs, t :: ts => RowAt w lo hi r t ∧ RowsAt w lo hi rs ts
 | _, _ => False
theorem RowsAt.get {w : World} {lo hi : Nat} : ∀ {rows : List Value} {tab : List (List PS)}, RowsAt w lo hi rows tab → rows.length = tab.length ∧ ∀ (i : Nat) (ps : List PS), tab[i]? = some ps → ∃ rv, rows[i]? = some rv ∧ RowAt w lo hi rv ps
 | [], [], _ => ⟨rfl, fun i ps h => by simp at h⟩
 | r :: rs, t :: ts, h => by
  obtain ⟨h1, h2⟩ := RowsAt.get h.2
  refine ⟨by simp [h1], fun i ps hi => ?_⟩
  cases i with
  | zero =>
   obtain rfl : t = ps := by simpa using hi
   exact ⟨r, rfl, h.1⟩
  | succ i => exact h2 i ps (by simpa using hi)
 | [], _ :: _, h => h.elim
 | _ :: _, [], h => h.elim
theorem tabOf {w : World} {lo hi g c : Nat} {rows : List Value} {tab : List (List PS)} (hb : Blk w g rows.toArray 96) (h1 : lo ≤ g) (h2 : g < hi) (h : RowsAt w lo hi rows tab) : TabAt w lo hi (.slice (some ⟨g, 0, none⟩) tab.length c) tab := by
 refine ⟨g, c, rfl, h1, h2, fun i ps hi => ?_⟩
 obtain ⟨rv, hr, hrow⟩ := h.get.2 i ps hi
 exact ⟨rv, Blk.cell hb (by simpa using hr), hrow⟩
def msgTab : List (List PS) := [[], [.num .tn 1 1 8, .name, .blob 262144], [.num .n 1 0 255], [.num .n 2 1 600], [], [], [.num .n 2 0 65535], []]
def repTab : List (List PS) := [[], [.num .n 4 0 131072], [], [.num .n 2 1 65535], [.num .n 4 0 4294967295, .num .m 4 0 4294967295], [.num .n 4 0 4294967295, .blob 5760], [.num .n 4 0 131072], [.num .n 1 0 255], [.num .n 4 0 4294967295], [.num .n 4 0 4294967295]]
set_option maxHeartbeats 4000000 in
set_option maxRecDepth 100000 in
theorem messages_ok (w : World) : Calls Try.prog 23 #[] w fun e w' => ∃ v, e = .returned v ∧ TabAt w' w.heap.size w'.heap.size v msgTab ∧ Below w.heap.size w w' := by
  go_enter Try.func23, Try.ntmps23
  go_wp2_with fail
  refine Calls.mono (number_ok .tn 1 1 8 _) ?_
  rintro e w1 ⟨v1, rfl, hp1, hb1⟩
  obtain ⟨x1, y1, z1, u1, q1⟩ := hp1.agg
  subst q1
  go_wp2_with fail
  refine Calls.mono (name_ok _) ?_
  rintro e w2 ⟨v2, rfl, hp2, hb2⟩
  obtain ⟨x2, y2, z2, u2, q2⟩ := hp2.agg
  subst q2
  go_wp2_with fail
  refine Calls.mono (blob_ok 262144 _) ?_
  rintro e w3 ⟨v3, rfl, hp3, hb3⟩
  obtain ⟨x3, y3, z3, u3, q3⟩ := hp3.agg
  subst q3
  go_wp2_with fail
  refine Calls.mono (number_ok .n 1 0 255 _) ?_
  rintro e w4 ⟨v4, rfl, hp4, hb4⟩
  obtain ⟨x4, y4, z4, u4, q4⟩ := hp4.agg
  subst q4
  go_wp2_with fail
  refine Calls.mono (number_ok .n 2 1 600 _) ?_
  rintro e w5 ⟨v5, rfl, hp5, hb5⟩
  obtain ⟨x5, y5, z5, u5, q5⟩ := hp5.agg
  subst q5
  go_wp2_with fail
  refine Calls.mono (number_ok .n 2 0 65535 _) ?_
  rintro e w6 ⟨v6, rfl, hp6, hb6⟩
  obtain ⟨x6, y6, z6, u6, q6⟩ := hp6.agg
  subst q6
  go_wp2
  go_ret
  generalize hwf : (((w6.alloc (Obj.cells #[x6, y6, z6, u6] 91)).alloc (Obj.cells #[] 91)).alloc
      (Obj.cells
        #[Value.slice none 0 0, Value.slice (some { block := w3.heap.size, off := 0 }) 3 3,
          Value.slice (some { block := w4.heap.size, off := 0 }) 1 1,
          Value.slice (some { block := w5.heap.size, off := 0 }) 1 1,
          Value.slice (some { block := w5.heap.size + 1, off := 0 }) 0 0,
          Value.slice (some { block := w5.heap.size + 1 + 1, off := 0 }) 0 0,
          Value.slice (some { block := w6.heap.size, off := 0 }) 1 1,
          Value.slice (some { block := w6.heap.size + 1, off := 0 }) 0 0]
        96)) = wf
  have kt : Blk wf (w6.heap.size + 1 + 1) #[Value.slice none 0 0, Value.slice (some { block := w3.heap.size, off := 0 }) 3 3,
          Value.slice (some { block := w4.heap.size, off := 0 }) 1 1,
          Value.slice (some { block := w5.heap.size, off := 0 }) 1 1,
          Value.slice (some { block := w5.heap.size + 1, off := 0 }) 0 0,
          Value.slice (some { block := w5.heap.size + 1 + 1, off := 0 }) 0 0,
          Value.slice (some { block := w6.heap.size, off := 0 }) 1 1,
          Value.slice (some { block := w6.heap.size + 1, off := 0 }) 0 0] 96 := by rw [← hwf]; exact blkNew (by simp)
  have k6 : Blk wf w6.heap.size #[x6, y6, z6, u6] 91 := by rw [← hwf]; exact blkOld (blkOld (blkNew rfl))
  have f6 : Below w6.heap.size w6 wf := by rw [← hwf]; go_grown
  clear hwf
  have g5 := bt hb6 f6
  have k5 := Blk.below (blkNew (w := w5) rfl) (bt (bt (ba _) (ba _)) g5)
  have f5 := bt (bt (bt (ba _) (ba _)) (ba _)) g5
  have g4 := bt hb5 f5
  have k4 := Blk.below (blkNew (w := w4) rfl) g4
  have f4 := bt (ba _) g4
  have g3 := bt hb4 f4
  have k3 := Blk.below (blkNew (w := w3) rfl) g3
  have f3 := bt (ba _) g3
  have f2 := bt hb3 f3
  have f1 := bt hb2 f2
  have f0 := bt hb1 f1
  have s1 := hb1.size
  have s2 := hb2.size
  have s3 := hb3.size
  have s4 := hb4.size
  have s5 := hb5.size
  have s6 := hb6.size
  have s7 := f6.size
  have s8 := kt.lt
  have r6 := hp6.below (lo' := w.heap.size) (hi' := wf.heap.size) f6 (Nat.le_refl _) (by simp only [World.size_alloc] at s4 s5 s6 ⊢; omega) s7
  have r5 := hp5.below (lo' := w.heap.size) (hi' := wf.heap.size) f5 (Nat.le_refl _) (by simp only [World.size_alloc] at s4 s5 s6 ⊢; omega) f5.size
  have r4 := hp4.below (lo' := w.heap.size) (hi' := wf.heap.size) f4 (Nat.le_refl _) (by simp only [World.size_alloc] at s4 s5 s6 ⊢; omega) f4.size
  have r3 := hp3.below (lo' := w.heap.size) (hi' := wf.heap.size) f3 (Nat.le_refl _) (by omega) f3.size
  have r2 := hp2.below (lo' := w.heap.size) (hi' := wf.heap.size) f2 (Nat.le_refl _) (by omega) f2.size
  have r1 := hp1.below (lo' := w.heap.size) (hi' := wf.heap.size) f1 (Nat.le_refl _) (by omega) f1.size
  have t3 := k3.lt
  have t4 := k4.lt
  have t5 := k5.lt
  have t6 := k6.lt
  clear hp1 hp2 hp3 hp4 hp5 hp6 f1 f2 f3 f4 f5 g3 g4 g5 f6 hb1 hb2 hb3 hb4 hb5 hb6
  simp only [World.size_alloc] at s4 s5 s6
  exact ⟨_, rfl, tabOf (tab := msgTab) (rows := [_, _, _, _, _, _, _, _]) kt (by omega) s8 ⟨rowNil, row3 k3 (by omega) t3 r1 r2 r3, row1 k4 (by omega) t4 r4, row1 k5 (by omega) t5 r5, rowNil, rowNil, row1 k6 (by omega) t6 r6, rowNil, trivial⟩, f0⟩
set_option maxHeartbeats 4000000 in
set_option maxRecDepth 100000 in
theorem replies_ok (w : World) : Calls Try.prog 28 #[] w fun e w' => ∃ v, e = .returned v ∧ TabAt w' w.heap.size w'.heap.size v repTab ∧ Below w.heap.size w w' := by
 go_enter Try.func28, Try.ntmps28
 go_wp2_with fail
 refine Calls.mono (number_ok .n 4 0 131072 _) ?_
 rintro e w1 ⟨v1, rfl, hp1, hb1⟩
 obtain ⟨x1, y1, z1, u1, q1⟩ := hp1.agg
 subst q1
 go_wp2_with fail
 refine Calls.mono (number_ok .n 2 1 65535 _) ?_
 rintro e w2 ⟨v2, rfl, hp2, hb2⟩
 obtain ⟨x2, y2, z2, u2, q2⟩ := hp2.agg
 subst q2
 go_wp2_with fail
 refine Calls.mono (number_ok .n 4 0 4294967295 _) ?_
 rintro e w3 ⟨v3, rfl, hp3, hb3⟩
 obtain ⟨x3, y3, z3, u3, q3⟩ := hp3.agg
 subst q3
 go_wp2_with fail
 refine Calls.mono (number_ok .m 4 0 4294967295 _) ?_
 rintro e w4 ⟨v4, rfl, hp4, hb4⟩
 obtain ⟨x4, y4, z4, u4, q4⟩ := hp4.agg
 subst q4
 go_wp2_with fail
 refine Calls.mono (number_ok .n 4 0 4294967295 _) ?_
 rintro e w5 ⟨v5, rfl, hp5, hb5⟩
 obtain ⟨x5, y5, z5, u5, q5⟩ := hp5.agg
 subst q5
 go_wp2_with fail
 refine Calls.mono (blob_ok 5760 _) ?_
 rintro e w6 ⟨v6, rfl, hp6, hb6⟩
 obtain ⟨x6, y6, z6, u6, q6⟩ := hp6.agg
 subst q6
 go_wp2_with fail
 refine Calls.mono (number_ok .n 4 0 131072 _) ?_
 rintro e w7 ⟨v7, rfl, hp7, hb7⟩
 obtain ⟨x7, y7, z7, u7, q7⟩ := hp7.agg
 subst q7
 go_wp2_with fail
 refine Calls.mono (number_ok .n 1 0 255 _) ?_
 rintro e w8 ⟨v8, rfl, hp8, hb8⟩
 obtain ⟨x8, y8, z8, u8, q8⟩ := hp8.agg
 subst q8
 go_wp2_with fail
 refine Calls.mono (number_ok .n 4 0 4294967295 _) ?_
 rintro e w9 ⟨v9, rfl, hp9, hb9⟩
 obtain ⟨x9, y9, z9, u9, q9⟩ := hp9.agg
 subst q9
 go_wp2_with fail
 refine Calls.mono (number_ok .n 4 0 4294967295 _) ?_
 rintro e w10 ⟨v10, rfl, hp10, hb10⟩
 obtain ⟨x10, y10, z10, u10, q10⟩ := hp10.agg
 subst q10
 go_wp2
 go_ret
 generalize hwf : ((w10.alloc (Obj.cells #[x10, y10, z10, u10] 91)).alloc (Obj.cells #[Value.slice none 0 0, Value.slice (some { block := w1.heap.size, off := 0 }) 1 1, Value.slice (some { block := w1.heap.size + 1, off := 0 }) 0 0, Value.slice (some { block := w2.heap.size, off := 0 }) 1 1, Value.slice (some { block := w4.heap.size, off := 0 }) 2 2, Value.slice (some { block := w6.heap.size, off := 0 }) 2 2, Value.slice (some { block := w7.heap.size, off := 0 }) 1 1, Value.slice (some { block := w8.heap.size, off := 0 }) 1 1, Value.slice (some { block := w9.heap.size, off := 0 }) 1 1, Value.slice (some { block := w10.heap.size, off := 0 }) 1 1] 96)) = wf
 have kt : Blk wf (w10.heap.size + 1) #[Value.slice none 0 0, Value.slice (some { block := w1.heap.size, off := 0 }) 1 1, Value.slice (some { block := w1.heap.size + 1, off := 0 }) 0 0, Value.slice (some { block := w2.heap.size, off := 0 }) 1 1, Value.slice (some { block := w4.heap.size, off := 0 }) 2 2, Value.slice (some { block := w6.heap.size, off := 0 }) 2 2, Value.slice (some { block := w7.heap.size, off := 0 }) 1 1, Value.slice (some { block := w8.heap.size, off := 0 }) 1 1, Value.slice (some { block := w9.heap.size, off := 0 }) 1 1, Value.slice (some { block := w10.heap.size, off := 0 }) 1 1] 96 := by rw [← hwf]; exact blkNew (by simp)
 have k10 : Blk wf w10.heap.size #[x10, y10, z10, u10] 91 := by rw [← hwf]; exact blkOld (blkNew rfl)
 have f10 : Below w10.heap.size w10 wf := by rw [← hwf]; go_grown
 clear hwf
 have g9 := bt hb10 f10
 have k9 := Blk.below (blkNew (w := w9) rfl) g9
 have f9 := bt (ba _) g9
 have g8 := bt hb9 f9
 have k8 := Blk.below (blkNew (w := w8) rfl) g8
 have f8 := bt (ba _) g8
 have g7 := bt hb8 f8
 have k7 := Blk.below (blkNew (w := w7) rfl) g7
 have f7 := bt (ba _) g7
 have g6 := bt hb7 f7
 have k6 := Blk.below (blkNew (w := w6) rfl) g6
 have f6 := bt (ba _) g6
 have g5 := bt hb6 f6
 have f5 := g5
 have g4 := bt hb5 f5
 have k4 := Blk.below (blkNew (w := w4) rfl) g4
 have f4 := bt (ba _) g4
 have g3 := bt hb4 f4
 have f3 := g3
 have g2 := bt hb3 f3
 have k2 := Blk.below (blkNew (w := w2) rfl) g2
 have f2 := bt (ba _) g2
 have g1 := bt hb2 f2
 have k1 := Blk.below (blkNew (w := w1) rfl) (bt (ba _) g1)
 have f1 := bt (bt (ba _) (ba _)) g1
 have f0 := bt hb1 f1
 have s1 := hb1.size
 have s2 := hb2.size
 have s3 := hb3.size
 have s4 := hb4.size
 have s5 := hb5.size
 have s6 := hb6.size
 have s7 := hb7.size
 have s8 := hb8.size
 have s9 := hb9.size
 have s10 := hb10.size
 have s11 := f10.size
 have s12 := kt.lt
 simp only [World.size_alloc] at s2 s3 s5 s7 s8 s9 s10
 have r1 := hp1.below (lo' := w.heap.size) (hi' := wf.heap.size) f1 (Nat.le_refl _) (by omega) f1.size
 have r2 := hp2.below (lo' := w.heap.size) (hi' := wf.heap.size) f2 (Nat.le_refl _) (by simp only [World.size_alloc]; omega) f2.size
 have r3 := hp3.below (lo' := w.heap.size) (hi' := wf.heap.size) f3 (Nat.le_refl _) (by simp only [World.size_alloc]; omega) f3.size
 have r4 := hp4.below (lo' := w.heap.size) (hi' := wf.heap.size) f4 (Nat.le_refl _) (by omega) f4.size
 have r5 := hp5.below (lo' := w.heap.size) (hi' := wf.heap.size) f5 (Nat.le_refl _) (by simp only [World.size_alloc]; omega) f5.size
 have r6 := hp6.below (lo' := w.heap.size) (hi' := wf.heap.size) f6 (Nat.le_refl _) (by omega) f6.size
 have r7 := hp7.below (lo' := w.heap.size) (hi' := wf.heap.size) f7 (Nat.le_refl _) (by simp only [World.size_alloc]; omega) f7.size
 have r8 := hp8.below (lo' := w.heap.size) (hi' := wf.heap.size) f8 (Nat.le_refl _) (by simp only [World.size_alloc]; omega) f8.size
 have r9 := hp9.below (lo' := w.heap.size) (hi' := wf.heap.size) f9 (Nat.le_refl _) (by simp only [World.size_alloc]; omega) f9.size
 have r10 := hp10.below (lo' := w.heap.size) (hi' := wf.heap.size) f10 (Nat.le_refl _) (by simp only [World.size_alloc]; omega) f10.size
 have t1 := k1.lt
 have t2 := k2.lt
 have t4 := k4.lt
 have t6 := k6.lt
 have t7 := k7.lt
 have t8 := k8.lt
 have t9 := k9.lt
 have t10 := k10.lt
 clear hp1 hb1 hp2 hb2 hp3 hb3 hp4 hb4 hp5 hb5 hp6 hb6 hp7 hb7 hp8 hb8 hp9 hb9 hp10 hb10 f1 f2 f3 f4 f5 f6 f7 f8 f9 f10 g1 g2 g3 g4 g5 g6 g7 g8 g9
 exact ⟨_, rfl, tabOf (tab := repTab) (rows := [_, _, _, _, _, _, _, _, _, _]) kt (by omega) s12 ⟨rowNil, row1 k1 (by omega) t1 r1, rowNil, row1 k2 (by omega) t2 r2, row2 k4 (by omega) t4 r3 r4, row2 k6 (by omega) t6 r5 r6, row1 k7 (by omega) t7 r7, row1 k8 (by omega) t8 r8, row1 k9 (by omega) t9 r9, row1 k10 (by omega) t10 r10, trivial⟩, f0⟩
end Go.Proofs.Ytpflenaoplblkaa.ProH
end
section
namespace Go.Proofs.Ytpflenaoplblkaa.ProJ
open Go.RowKit YtpflenaoplblkaaW.PrintWords YtpflenaoplblkaaW.PrintLast ProA ProB ProC ProI ProD ProE ProF ProG ProH
set_option linter.unusedVariables false
set_option linter.unusedSimpArgs false
def Fget (F : Flds) : Wh → Int | .tn => F.tn | .n => F.n | .m => F.m
def Fput (F : Flds) (o : Wh) (x : Int) : Flds := match o with | .tn => { F with tn := x } | .n => { F with n := x } | .m => { F with m := x }
def len1 (xs : List Int) (k : Nat) : Nat := (be (xs.take k)).toNat
def rdS : PS → List Int → Flds → Option (Flds × Nat)
 | .num o k _ _, xs, F => if k ≤ xs.length then some (Fput F o (be (xs.take k)), k) else none
 | .name, xs, F => if 1 ≤ xs.length ∧ 1 + len1 xs 1 ≤ xs.length then some ({ F with name := strOfNums ((xs.drop 1).take (len1 xs 1)) }, 1 + len1 xs 1) else none
 | .blob _, xs, F => if 4 ≤ xs.length ∧ 4 + len1 xs 4 ≤ xs.length then some ({ F with data := (xs.drop 4).take (len1 xs 4) }, 4 + len1 xs 4) else none
def fitsS : PS → Flds → Bool
 | .num o _ lo hi, F => decide (lo ≤ Fget F o) && decide (Fget F o ≤ hi)
 | .name, F => nameOk F.name
 | .blob hi, F => decide ((F.data.length : Int) ≤ hi)
def wrS : PS → Flds → List Int
 | .num o k _ _, F => beB (Fget F o) k
 | .name, F => beB F.name.size 1 ++ bytesOf F.name
 | .blob _, F => beB F.data.length 4 ++ F.data
def clS : PS → Flds → Flds
 | .num o _ _ _, F => Fput F o 0
 | .name, F => { F with name := ByteArray.empty }
 | .blob _, F => { F with data := [] }
def psmall : PS → Prop
 | .num _ k lo _ => 1 ≤ k ∧ k ≤ 4 ∧ 0 ≤ lo
 | _ => True
def FCalls (P : Program) (v : Value) (args : Array Value) (w : World) (R : Ending → World → Prop) : Prop :=
  ∃ N fn cap, v = fnv N cap ∧ P.funcs[N]? = some fn ∧ (fn.name == "runtime.NumGoroutine") = false ∧ fn.body.isSome = true ∧ Calls P N (args ++ cap) w R
theorem u8_drop {xs : List Int} (h : u8s xs) (k : Nat) : u8s (xs.drop k) := fun x hx => h x (List.mem_of_mem_drop hx)
theorem len1_eq {xs : List Int} (h : u8s xs) (k : Nat) : be (xs.take k) = (len1 xs k : Int) := by
 have := be_lt h k
 unfold len1
 omega
structure Rest (w : World) (g f : Nat) (A : Option Addr) (n c : Nat) (xs : List Int) : Prop where
 at_ : RdAt w g A n c
 bytes : BytesAt w A n xs
 u8 : u8s xs
 ng : ∀ a, A = some a → a.block ≠ g
 nf : ∀ a, A = some a → a.block ≠ f
 le : n ≤ c
theorem Rest.step {w w' : World} {g f : Nat} {A : Option Addr} {n c k : Nat} {xs : List Int} (h : Rest w g f A n c xs) (ht : Tu [g, f] w w') (hk : k ≤ n) (hr : RdAt w' g (adv A c k) (n - k) (c - k)) : Rest w' g f (adv A c k) (n - k) (c - k) (xs.drop k) :=
 ⟨hr, BytesAt.tu (BytesAt.drop h.bytes k hk h.le) ht (fun a ha _ hm => by
  have h1 := adv_ne h.ng a ha
  have h2 := adv_ne h.nf a ha
  simp at hm
  rcases hm with hm | hm
  · exact h1 hm
  · exact h2 hm), u8_drop h.u8 k, adv_ne h.ng, adv_ne h.nf, by have := h.le; omega⟩
abbrev DataAt (w : World) (base g f : Nat) (dv : Value) (xs : List Int) : Prop := Own w base (fun k => k ≠ g ∧ k ≠ f) dv xs
theorem DataAt.tu {w w' : World} {base g f : Nat} {dv : Value} {xs : List Int} (h : DataAt w base g f dv xs) (ht : Tu [g, f] w w') : DataAt w' base g f dv xs :=
  Kd.R_step h (fun k hk hlt => ht.block k hlt (by simp; exact hk))
theorem Rest.step2 {w w' : World} {g f : Nat} {A : Option Addr} {n c k l : Nat} {xs : List Int} (h : Rest w g f A n c xs) (ht : Tu [g, f] w w') (hk : k + l ≤ n) (hr : RdAt w' g (adv (adv A c k) (c - k) l) (n - k - l) (c - k - l)) : Rest w' g f (adv (adv A c k) (c - k) l) (n - (k + l)) (c - k - l) (xs.drop (k + l)) := by
 have hle := h.le
 have e : n - (k + l) = n - k - l := by omega
 rw [e, ← List.drop_drop]
 exact ⟨hr, BytesAt.tu (BytesAt.drop (BytesAt.drop h.bytes k (by omega) h.le) l (by omega) (by omega)) ht (fun a ha _ hm => by
  have h1 := adv_ne (adv_ne h.ng) a ha
  have h2 := adv_ne (adv_ne h.nf) a ha
  simp at hm
  rcases hm with hm | hm
  · exact h1 hm
  · exact h2 hm), u8_drop (u8_drop h.u8 k) l, adv_ne (adv_ne h.ng), adv_ne (adv_ne h.nf), by omega⟩
theorem FCalls.of {P : Program} {N : FuncId} {fn : Func} {cap args args' : Array Value} {w : World} {R : Ending → World → Prop} (hf : P.funcs[N]? = some fn) (hn : (fn.name == "runtime.NumGoroutine") = false) (hb : fn.body.isSome = true) (h : Calls P N args' w R) (ha : args ++ cap = args') : FCalls P (fnv N cap) args w R :=
  ⟨N, fn, cap, rfl, hf, hn, hb, ha ▸ h⟩
def ReadPost (w : World) (base g f n : Nat) (xs : List Int) (r : Option (Flds × Nat)) (e : Ending) (w' : World) : Prop :=
 match r with
 | none => e = wrong 121 ∧ Tu [g] w w'
 | some (F', k) => ∃ A' c' dv', e = .returned (.tuple #[]) ∧ Rest w' g f A' (n - k) c' (xs.drop k) ∧ FdAt w' f F' dv' ∧ DataAt w' base g f dv' F'.data ∧ Tu [g, f] w w'
set_option maxHeartbeats 1000000 in
theorem part_read (p : PS) (w : World) (lo hi base g f n c : Nat) (f0 f1 f2 f3 dv : Value) (A : Option Addr) (xs : List Int) (F : Flds)
  (hp : PartAt w lo hi (.agg #[f0, f1, f2, f3]) p) (hs : psmall p) (hr : Rest w g f A n c xs) (hf : FdAt w f F dv) (hd : DataAt w base g f dv F.data) (hgf : f ≠ g) (hb : base ≤ w.heap.size) (hbig : n ≤ 140737488350000) :
  FCalls Try.prog f0 #[pt g, pt f] w (ReadPost w base g f n xs (rdS p xs F)) := by
 have hlen := BytesAt.len hr.bytes
 have hle := hr.le
 have hgl : g < w.heap.size := hr.at_.lt
 have hfl : f < w.heap.size := hf.lt
 cases p with
 | num o k l h =>
  obtain ⟨a4, a5, a6, a7, hv, _, b1, b2, b3, b4⟩ := hp
  simp only [Value.agg.injEq, Array.mk.injEq, List.cons.injEq, and_true] at hv
  obtain ⟨rfl, rfl, rfl, rfl⟩ := hv
  obtain ⟨hk1, hk4, _⟩ := hs
  simp only [rdS]
  by_cases hk : k ≤ xs.length
  ·
   rw [if_pos hk]
   have hk' : k ≤ n := by omega
   cases o
   · exact FCalls.of Try.func63 (by kernel_rfl) rfl (Calls.mono (read_ok_tenant g f a4 a7 A n c k w xs F dv hr.at_ hf b1 b4 hr.bytes hr.u8 (fun a ha _ => hr.ng a ha) hk' hk4 hr.le hgf) (fun e w' ⟨h1, h2, h3, h4⟩ => ⟨_, _, dv, h1, hr.step h4 hk' h2, h3, hd.tu h4, h4⟩)) rfl
   · exact FCalls.of Try.func63 (by kernel_rfl) rfl (Calls.mono (read_ok_n g f a4 a7 A n c k w xs F dv hr.at_ hf b1 b4 hr.bytes hr.u8 (fun a ha _ => hr.ng a ha) hk' hk4 hr.le hgf) (fun e w' ⟨h1, h2, h3, h4⟩ => ⟨_, _, dv, h1, hr.step h4 hk' h2, h3, hd.tu h4, h4⟩)) rfl
   · exact FCalls.of Try.func63 (by kernel_rfl) rfl (Calls.mono (read_ok_m g f a4 a7 A n c k w xs F dv hr.at_ hf b1 b4 hr.bytes hr.u8 (fun a ha _ => hr.ng a ha) hk' hk4 hr.le hgf) (fun e w' ⟨h1, h2, h3, h4⟩ => ⟨_, _, dv, h1, hr.step h4 hk' h2, h3, hd.tu h4, h4⟩)) rfl
  ·
   rw [if_neg hk]
   have hk' : n < k := by omega
   cases o
   · exact FCalls.of Try.func63 (by kernel_rfl) rfl (read_no_tenant g f a4 a7 A n c k w hr.at_ b1 b4 hk') rfl
   · exact FCalls.of Try.func63 (by kernel_rfl) rfl (read_no_n g f a4 a7 A n c k w hr.at_ b1 b4 hk') rfl
   · exact FCalls.of Try.func63 (by kernel_rfl) rfl (read_no_m g f a4 a7 A n c k w hr.at_ b1 b4 hk') rfl
 | name =>
  have hv : Value.agg #[f0, f1, f2, f3] = _ := hp
  simp only [Value.agg.injEq, Array.mk.injEq, List.cons.injEq, and_true] at hv
  obtain ⟨rfl, rfl, rfl, rfl⟩ := hv
  simp only [rdS]
  by_cases h1 : 1 ≤ n
  ·
   by_cases h2 : 1 + len1 xs 1 ≤ n
   ·
    rw [if_pos ⟨by omega, by omega⟩]
    exact FCalls.of Try.func67 (by kernel_rfl) rfl (Calls.mono (nread_ok g f A n c (len1 xs 1) w xs F dv hr.at_ hf hr.bytes hr.u8 hr.ng hr.le hgf h1 (len1_eq hr.u8 1) h2) (fun e w' ⟨h1, h3, h4, h5⟩ => ⟨_, _, dv, h1, hr.step2 h5 h2 h3, h4, hd.tu h5, h5⟩)) rfl
   ·
    rw [if_neg (by omega)]
    exact FCalls.of Try.func67 (by kernel_rfl) rfl (nread_no2 g f A n c (len1 xs 1) w xs hr.at_ hr.bytes hr.u8 hr.ng hr.le h1 (len1_eq hr.u8 1) (by omega)) rfl
  ·
   rw [if_neg (by omega)]
   exact FCalls.of Try.func67 (by kernel_rfl) rfl (nread_no1 g f A n c w hr.at_ (by omega)) rfl
 | blob h =>
  obtain ⟨a, hv, _, b1⟩ := hp
  simp only [Value.agg.injEq, Array.mk.injEq, List.cons.injEq, and_true] at hv
  obtain ⟨rfl, rfl, rfl, rfl⟩ := hv
  simp only [rdS]
  by_cases h1 : 4 ≤ n
  ·
   by_cases h2 : 4 + len1 xs 4 ≤ n
   ·
    rw [if_pos ⟨by omega, by omega⟩]
    refine FCalls.of Try.func73 (by kernel_rfl) rfl (Calls.mono (bread_ok g f A n c (len1 xs 4) w xs F dv hr.at_ hf hr.bytes hr.u8 hr.ng hr.le hgf h1 (len1_eq hr.u8 4) h2 (by omega)) ?_) rfl
    rintro e w' ⟨dv', h1, h3, h4, h5, h6⟩
    exact ⟨_, _, dv', h1, hr.step2 h6 h2 h3, h4, Kd.R_lower (Kd.R_mono h5 (fun k hk => by rcases hk with hk | hk; simp at hk; omega)) hb, h6⟩
   ·
    rw [if_neg (by omega)]
    exact FCalls.of Try.func73 (by kernel_rfl) rfl (bread_no2 g f A n c (len1 xs 4) w xs hr.at_ hr.bytes hr.u8 hr.ng hr.le h1 (len1_eq hr.u8 4) (by omega)) rfl
  ·
   rw [if_neg (by omega)]
   exact FCalls.of Try.func73 (by kernel_rfl) rfl (bread_no1 g f A n c w hr.at_ (by omega)) rfl
end Go.Proofs.Ytpflenaoplblkaa.ProJ
end
section
namespace Go.Proofs.Ytpflenaoplblkaa.ProK
open Go.RowKit YtpflenaoplblkaaW.PrintWords YtpflenaoplblkaaW.PrintLast ProA ProB ProC ProI ProD ProE ProF ProG ProH ProJ
set_option linter.unusedVariables false
set_option linter.unusedSimpArgs false
theorem below_drewN' (w : World) : ∀ n, Below w.heap.size w (w.drewN n)
 | 0 => Below.refl _ _
 | n + 1 => (below_drewN' w n).drew
set_option maxHeartbeats 1000000 in
theorem part_fits (p : PS) (w : World) (lo hi f : Nat) (f0 f1 f2 f3 : Value) (B : Option Addr) (m c : Nat) (F : Flds)
  (hp : PartAt w lo hi (.agg #[f0, f1, f2, f3]) p) (hf : FdAt w f F (.slice B m c)) (hm : F.data.length = m) :
  FCalls Try.prog f1 #[pt f] w (fun e w' => e = .returned (.bool (fitsS p F)) ∧ Below w.heap.size w w') := by
 cases p with
 | num o k l h =>
  obtain ⟨a4, a5, a6, a7, hv, _, b1, b2, b3, b4⟩ := hp
  simp only [Value.agg.injEq, Array.mk.injEq, List.cons.injEq, and_true] at hv
  obtain ⟨rfl, rfl, rfl, rfl⟩ := hv
  cases o
  · exact FCalls.of Try.func64 (by kernel_rfl) rfl (Calls.mono (fits_tenant f a7 a5 a6 l h w F _ hf b2 b3 b4) (fun e w' ⟨h1, n, h2⟩ => ⟨h1, h2 ▸ below_drewN' w n⟩)) rfl
  · exact FCalls.of Try.func64 (by kernel_rfl) rfl (Calls.mono (fits_n f a7 a5 a6 l h w F _ hf b2 b3 b4) (fun e w' ⟨h1, n, h2⟩ => ⟨h1, h2 ▸ below_drewN' w n⟩)) rfl
  · exact FCalls.of Try.func64 (by kernel_rfl) rfl (Calls.mono (fits_m f a7 a5 a6 l h w F _ hf b2 b3 b4) (fun e w' ⟨h1, n, h2⟩ => ⟨h1, h2 ▸ below_drewN' w n⟩)) rfl
 | name =>
  have hv : Value.agg #[f0, f1, f2, f3] = _ := hp
  simp only [Value.agg.injEq, Array.mk.injEq, List.cons.injEq, and_true] at hv
  obtain ⟨rfl, rfl, rfl, rfl⟩ := hv
  exact FCalls.of Try.func69 (by kernel_rfl) rfl (nfits f w F _ hf) rfl
 | blob h =>
  obtain ⟨a, hv, _, b1⟩ := hp
  simp only [Value.agg.injEq, Array.mk.injEq, List.cons.injEq, and_true] at hv
  obtain ⟨rfl, rfl, rfl, rfl⟩ := hv
  exact FCalls.of Try.func74 (by kernel_rfl) rfl (Calls.mono (bfits f a h w F B m c hf b1) (fun e w' ⟨h1, n, h2⟩ => ⟨by rw [h1]; simp only [fitsS]; rw [hm], h2 ▸ below_drewN' w n⟩)) rfl
set_option maxHeartbeats 1000000 in
theorem part_write (p : PS) (w : World) (lo hi base f : Nat) (S : List Nat) (f0 f1 f2 f3 v : Value) (B : Option Addr) (m c : Nat) (xs : List Int) (F : Flds)
  (hp : PartAt w lo hi (.agg #[f0, f1, f2, f3]) p) (hs : psmall p) (hf : FdAt w f F (.slice B m c)) (hx : BytesAt w B m F.data) (hB : ∀ a, B = some a → 0 < m → a.block ∉ S) (hfS : f ∉ S)
  (hR : Own w base (okS S w) v xs) (hbs : base ≤ w.heap.size) (hl : xs.length ≤ 1407374883500) (hm : m ≤ 1407374883500) (hfit : fitsS p F = true) :
  FCalls Try.prog f2 #[v, pt f] w (fun e w' => ∃ v', e = .returned v' ∧ Own w' base (okS S w) v' (xs ++ wrS p F) ∧ Tu S w w' ∧ Below base w w') := by
 cases p with
 | num o k l h =>
  obtain ⟨a4, a5, a6, a7, hv, _, b1, b2, b3, b4⟩ := hp
  simp only [Value.agg.injEq, Array.mk.injEq, List.cons.injEq, and_true] at hv
  obtain ⟨rfl, rfl, rfl, rfl⟩ := hv
  obtain ⟨hk1, hk4, hl0⟩ := hs
  have h0 : 0 ≤ Fget F o := by
   simp only [fitsS, Bool.and_eq_true, decide_eq_true_eq] at hfit
   omega
  cases o
  · exact FCalls.of Try.func65 (by kernel_rfl) rfl (write_tenant base S f a4 a7 k v xs w F _ hf b1 b4 hR hbs h0 hk1 hk4 (by omega)) rfl
  · exact FCalls.of Try.func65 (by kernel_rfl) rfl (write_n base S f a4 a7 k v xs w F _ hf b1 b4 hR hbs h0 hk1 hk4 (by omega)) rfl
  · exact FCalls.of Try.func65 (by kernel_rfl) rfl (write_m base S f a4 a7 k v xs w F _ hf b1 b4 hR hbs h0 hk1 hk4 (by omega)) rfl
 | name =>
  have hv : Value.agg #[f0, f1, f2, f3] = _ := hp
  simp only [Value.agg.injEq, Array.mk.injEq, List.cons.injEq, and_true] at hv
  obtain ⟨rfl, rfl, rfl, rfl⟩ := hv
  have hsz : F.name.size ≤ 1000000 := by
   simp only [fitsS, nameOk, Bool.and_eq_true, decide_eq_true_eq] at hfit
   omega
  exact FCalls.of Try.func71 (by kernel_rfl) rfl (nwrite base S f v xs w F _ hf hsz hfS hR hbs hl) rfl
 | blob h =>
  obtain ⟨a, hv, _, b1⟩ := hp
  simp only [Value.agg.injEq, Array.mk.injEq, List.cons.injEq, and_true] at hv
  obtain ⟨rfl, rfl, rfl, rfl⟩ := hv
  have hl := BytesAt.len hx
  refine FCalls.of Try.func75 (by kernel_rfl) rfl (Calls.mono (bwrite base S f v xs w F B m c hf hx hB hm hfS hR hbs (by omega)) ?_) rfl
  rintro e w' ⟨v', h1, h2, h3⟩
  exact ⟨v', h1, by simp only [wrS]; rw [hl]; exact h2, h3⟩
set_option maxHeartbeats 1000000 in
theorem part_clear (p : PS) (w : World) (lo hi f : Nat) (f0 f1 f2 f3 dv : Value) (F : Flds)
  (hp : PartAt w lo hi (.agg #[f0, f1, f2, f3]) p) (hf : FdAt w f F dv) :
  FCalls Try.prog f3 #[pt f] w (fun e w' => ∃ dv', e = .returned (.tuple #[]) ∧ FdAt w' f (clS p F) dv' ∧ (dv' = dv ∧ (clS p F).data = F.data ∨ dv' = .slice none 0 0 ∧ (clS p F).data = []) ∧ Tu [f] w w') := by
 cases p with
 | num o k l h =>
  obtain ⟨a4, a5, a6, a7, hv, _, b1, b2, b3, b4⟩ := hp
  simp only [Value.agg.injEq, Array.mk.injEq, List.cons.injEq, and_true] at hv
  obtain ⟨rfl, rfl, rfl, rfl⟩ := hv
  cases o
  · exact FCalls.of Try.func66 (by kernel_rfl) rfl (Calls.mono (clear_tenant f a7 w F dv hf b4) (fun e w' ⟨h1, h2, h3⟩ => ⟨dv, h1, h2, .inl ⟨rfl, rfl⟩, h3⟩)) rfl
  · exact FCalls.of Try.func66 (by kernel_rfl) rfl (Calls.mono (clear_n f a7 w F dv hf b4) (fun e w' ⟨h1, h2, h3⟩ => ⟨dv, h1, h2, .inl ⟨rfl, rfl⟩, h3⟩)) rfl
  · exact FCalls.of Try.func66 (by kernel_rfl) rfl (Calls.mono (clear_m f a7 w F dv hf b4) (fun e w' ⟨h1, h2, h3⟩ => ⟨dv, h1, h2, .inl ⟨rfl, rfl⟩, h3⟩)) rfl
 | name =>
  have hv : Value.agg #[f0, f1, f2, f3] = _ := hp
  simp only [Value.agg.injEq, Array.mk.injEq, List.cons.injEq, and_true] at hv
  obtain ⟨rfl, rfl, rfl, rfl⟩ := hv
  exact FCalls.of Try.func72 (by kernel_rfl) rfl (Calls.mono (nclear f w F dv hf) (fun e w' ⟨h1, h2, h3⟩ => ⟨dv, h1, h2, .inl ⟨rfl, rfl⟩, h3⟩)) rfl
 | blob h =>
  obtain ⟨a, hv, _, b1⟩ := hp
  simp only [Value.agg.injEq, Array.mk.injEq, List.cons.injEq, and_true] at hv
  obtain ⟨rfl, rfl, rfl, rfl⟩ := hv
  exact FCalls.of Try.func76 (by kernel_rfl) rfl (Calls.mono (bclear f w F dv hf) (fun e w' ⟨h1, h2, h3⟩ => ⟨_, h1, h2, .inr ⟨rfl, rfl⟩, h3⟩)) rfl
end Go.Proofs.Ytpflenaoplblkaa.ProK
end
section
namespace Go.Proofs.Ytpflenaoplblkaa.ProL
open Go.RowKit YtpflenaoplblkaaW.PrintWords YtpflenaoplblkaaW.PrintLast ProA ProB ProC ProI ProD ProE ProF ProG ProH ProJ ProK
set_option linter.unusedVariables false
set_option linter.unusedSimpArgs false
def decParts : List PS → List Int → Flds → Except Int Flds
 | [], xs, F => if xs = [] then .ok F else .error 121
 | p :: ps, xs, F => match rdS p xs F with
  | none => .error 121
  | some (F', k) => if fitsS p F' then decParts ps (xs.drop k) F' else .error 123
def fd0 (k : Int) : Flds := ⟨k, 0, 0, 0, ByteArray.empty, []⟩
def decS (tab : List (List PS)) (xs : List Int) : Except Int Flds :=
 if xs.length < 1 then .error 121 else
 match tab[(be (xs.take 1)).toNat]? with
 | none => .error 122
 | some ps => if be (xs.take 1) < 1 then .error 122 else decParts ps (xs.drop 1) (fd0 (be (xs.take 1)))
set_option maxRecDepth 100000 in
theorem catch_panicking (g : Nat) (x c : Int) (older : List PanicEntry) (w : World) (h : Blk w g #[.int .i64 x] 28) :
  CallsD Try.prog 77 #[pt g] (.panicking ({ v := .iface 124 (.agg #[.int .i64 c]), recovered := false } :: older)) w fun e u' w' =>
   e = .returned (.tuple #[]) ∧ u' = .panicking ({ v := .iface 124 (.agg #[.int .i64 c]), recovered := true } :: older) ∧ Blk w' g #[.int .i64 c] 28 ∧ Tu [g] w w' := by
 have hc := Blk.cell (i := 0) h rfl
 have hz := Blk.frozen (i := 0) h
 refine callsD_of_wpS Try.func77 rfl fun c₀ cs hu => ?_
 apply wpS_seq
 apply wpS_region
 simp [wpOpsS, go_sem, recoverD, hu, Try.ntmps77, Exit.thenS]
 refine wpS_of_wp ?_
 show Code.wp Try.prog _ _ { tmps := #[pt g, undef, undef, undef, .iface 124 (.agg #[.int .i64 c]), undef, undef, undef, undef, undef, undef, undef], defers := [] } _
 have q1 : ∀ w, (binOp .eql 20 (.iface 124 (.agg #[.int .i64 c])) .nilIface).run Try.prog w = .ok (.bool false) w := fun w => by kernel_rfl
 have q2 : ∀ w, (Instr.typeAssert (.iface 124 (.agg #[.int .i64 c])) 20 124 true).run Try.prog w = .ok (.tuple #[.agg #[.int .i64 c], .bool true]) w := fun w => by kernel_rfl
 have k2 : Blk (w.alloc (.cells #[.int .i64 c] 124)) g #[.int .i64 x] 28 := blkOld h
 have hc2 := Blk.cell (i := 0) k2 rfl
 have hz2 := Blk.frozen (i := 0) k2
 have k3 := Blk.set (i := 0) k2 (.int .i64 c)
 have k4 := ((Tu.refl [g] w).alloc (.cells #[.int .i64 c] 124)).setCell (p := ⟨g, 0, none⟩) (.inl (by simp)) (.int .i64 c)
 go_wp2_with fail
 cases c₀
 simp_all [bodyPostS, results, Try.results77]
 exact k3
theorem catch_idle (g : Nat) (w : World) :
  CallsD Try.prog 77 #[pt g] .returning w fun e u' w' => e = .returned (.tuple #[]) ∧ u' = .returning ∧ w' = w := by
 refine callsD_of_wpS Try.func77 rfl fun c₀ cs hu => ?_
 apply wpS_seq
 apply wpS_region
 simp [wpOpsS, go_sem, recoverD, hu, Try.ntmps77, Exit.thenS]
 refine wpS_of_wp ?_
 show Code.wp Try.prog _ _ { tmps := #[pt g, undef, undef, undef, .nilIface, undef, undef, undef, undef, undef, undef, undef], defers := [] } _
 go_wp2
 cases c₀
 simp_all [bodyPostS, results, Try.results77]
end Go.Proofs.Ytpflenaoplblkaa.ProL
end
section
namespace Go.Proofs.Ytpflenaoplblkaa.ProM
open Go.RowKit YtpflenaoplblkaaW.PrintWords YtpflenaoplblkaaW.PrintLast ProA ProB ProC ProI ProD ProE ProF ProG ProH ProJ ProK ProL
set_option linter.unusedVariables false
set_option linter.unusedSimpArgs false
theorem fdCells {w : World} {f : Nat} {F : Flds} {dv : Value} (h : FdAt w f F dv) : w.cell? ⟨f, 0, none⟩ = some (.int .i64 F.kind) ∧ w.cell? ⟨f, 1, none⟩ = some (.int .i64 F.tn) ∧ w.cell? ⟨f, 2, none⟩ = some (.int .i64 F.n) ∧ w.cell? ⟨f, 3, none⟩ = some (.int .i64 F.m) ∧ w.cell? ⟨f, 4, none⟩ = some (.string F.name) ∧ w.cell? ⟨f, 5, none⟩ = some dv :=
  ⟨Blk.cell (i := 0) h rfl, Blk.cell (i := 1) h rfl, Blk.cell (i := 2) h rfl, Blk.cell (i := 3) h rfl, Blk.cell (i := 4) h rfl, Blk.cell (i := 5) h rfl⟩
theorem dec_panic {R : Ending → World → Prop} (T : Array Value) (f cg : Nat) (h4 : T[4]?.getD undef = pt f) (h5 : T[5]?.getD undef = pt cg) (W : World) (q x : Int) (F : Flds) (dv : Value) (hf : FdAt W f F dv) (hc : Blk W cg #[.int .i64 x] 28) (hne : f ≠ cg)
  (hR : ∀ w', Tu [cg] W w' → R (.returned (.tuple #[.agg (Flds.cells F dv), .int .i64 q])) w') :
  bodyPostD Try.prog Try.f46 R (Exit.panic [{ v := .iface 124 (.agg #[.int .i64 q]), recovered := false }]) { tmps := T, defers := [{ target := Target.fn (Fn.func 77) #[pt cg], args := #[] }] } W := by
 refine leaves_cons (f := 77) (args := #[pt cg]) (by simp) (by simp [go_sem]) ?_
 refine (catch_panicking cg x q [] W hc).mono ?_
 rintro e u' w3 ⟨rfl, rfl, k1, k2⟩
 obtain ⟨c0, c1, c2, c3, c4, c5⟩ := fdCells (hf.tu k2 (by simpa using hne))
 have c6 : w3.cell? ⟨cg, 0, none⟩ = some (.int .i64 q) := Blk.cell (i := 0) k1 rfl
 have hR' := hR w3 k2
 simp [Leaves, settle, results, Try.results46, go_sem, h4, h5, c0, c1, c2, c3, c4, c5, c6]
 exact hR'
theorem dec_ret {R : Ending → World → Prop} (T : Array Value) (f cg : Nat) (h4 : T[4]?.getD undef = pt f) (h5 : T[5]?.getD undef = pt cg) (W : World) (q : Int) (F : Flds) (dv : Value) (hf : FdAt W f F dv) (hc : Blk W cg #[.int .i64 q] 28)
  (hR : R (.returned (.tuple #[.agg (Flds.cells F dv), .int .i64 q])) W) :
  bodyPostD Try.prog Try.f46 R Exit.ret { tmps := T, defers := [{ target := Target.fn (Fn.func 77) #[pt cg], args := #[] }] } W := by
 obtain ⟨c0, c1, c2, c3, c4, c5⟩ := fdCells hf
 have c6 : W.cell? ⟨cg, 0, none⟩ = some (.int .i64 q) := Blk.cell (i := 0) hc rfl
 refine leaves_cons (f := 77) (args := #[pt cg]) (by simp) (by simp [go_sem]) ?_
 refine (catch_idle cg W).mono ?_
 rintro e u' w3 ⟨rfl, rfl, rfl⟩
 simp [Leaves, settle, results, Try.results46, go_sem, h4, h5, c0, c1, c2, c3, c4, c5, c6]
 exact hR
theorem adv_lt {A : Option Addr} {c k h : Nat} (hA : ∀ a, A = some a → a.block < h) : ∀ a, adv A c k = some a → a.block < h := by
 intro a ha
 unfold adv at ha
 split at ha
 · exact hA a ha
 ·
  cases A with
  | none => simp at ha
  | some b =>
   simp only [Option.map_some, Option.some.injEq] at ha
   subst ha
   have := hA b rfl
   unfold Addr.add
   split <;> exact this
theorem BytesAt.below' {B : Nat} {w w' : World} {A : Option Addr} {n : Nat} {xs : List Int} (h : BytesAt w A n xs) (hb : Below B w w') (hA : ∀ a, A = some a → a.block < B) : BytesAt w' A n xs := by
 have hr := Kd.reads_of_C (enc := Value.int .u8) (d := (0 : Int)) (h1 := fun _ => rfl) h
 refine Kd.C_of_reads (d := (0 : Int)) ⟨hr.1, hr.2.1, fun hn => ?_⟩
 obtain ⟨a, e, hc⟩ := hr.2.2 hn
 refine ⟨a, e, fun j hj => ?_⟩
 have hl := hA a e
 have : (a.add j).block < B := by
  cases j with
  | zero => rwa [Addr.add_zero']
  | succ j => simpa [Addr.add_succ'] using hl
 exact (World.cell?_of_block (w := w) (hb.block _ this)).trans (hc j hj)
def DecPost (w : World) (r : Except Int Flds) (e : Ending) (w' : World) : Prop :=
 ∃ (F : Flds) (B : Option Addr) (m c : Nat) (code : Int), e = .returned (.tuple #[.agg (Flds.cells F (.slice B m c)), .int .i64 code]) ∧ Below w.heap.size w w' ∧
  match r with | .ok F' => code = 0 ∧ F' = F ∧ Own w' w.heap.size (fun _ => True) (.slice B m c) F.data | .error q => code = q
theorem own_tu {base : Nat} {S : List Nat} {w w' : World} {ok : Nat → Prop} {dv : Value} {xs : List Int} (h : Own w base ok dv xs) (ht : Tu S w w') (hS : ∀ k, k ∈ S → k < base) : Own w' base ok dv xs :=
  Kd.R_mono (Kd.R_move (Kd.R_bound h) (fun k hk => ht.block k hk.2.2.1 (fun hm => by have := hS k hm; have := hk.2.1; omega))) (fun _ hk => hk.1)
def Enters (n : FuncId) : Prop := ∀ (args : Array Value) (w : World), (callFunc n args).run Try.prog w = .ok (.enter n args) w
theorem FCalls.calls {n : FuncId} {cap args : Array Value} {w : World} {R : Ending → World → Prop} (h : FCalls Try.prog (fnv n cap) args w R) : Calls Try.prog n (args ++ cap) w R := by
 obtain ⟨N, fn, cp, e, _, _, _, h⟩ := h
 simp only [fnv, Value.func.injEq, Fn.func.injEq] at e
 obtain ⟨e1, _, e2⟩ := e
 subst e1
 subst e2
 exact h
theorem PartAt.fns {w : World} {lo hi : Nat} {f0 f1 f2 f3 : Value} {p : PS} (h : PartAt w lo hi (.agg #[f0, f1, f2, f3]) p) :
  ∃ n0 c0 n1 c1 n2 c2 n3 c3, f0 = fnv n0 c0 ∧ f1 = fnv n1 c1 ∧ f2 = fnv n2 c2 ∧ f3 = fnv n3 c3 ∧ Enters n0 ∧ Enters n1 ∧ Enters n2 ∧ Enters n3 := by
 cases p with
 | num o k l h' =>
  obtain ⟨a4, a5, a6, a7, hv, _⟩ := h
  simp only [Value.agg.injEq, Array.mk.injEq, List.cons.injEq, and_true] at hv
  obtain ⟨rfl, rfl, rfl, rfl⟩ := hv
  exact ⟨_, _, _, _, _, _, _, _, rfl, rfl, rfl, rfl, fun a w => enters_ Try.func63 (by kernel_rfl) rfl a w, fun a w => enters_ Try.func64 (by kernel_rfl) rfl a w, fun a w => enters_ Try.func65 (by kernel_rfl) rfl a w, fun a w => enters_ Try.func66 (by kernel_rfl) rfl a w⟩
 | name =>
  have hv : Value.agg #[f0, f1, f2, f3] = _ := h
  simp only [Value.agg.injEq, Array.mk.injEq, List.cons.injEq, and_true] at hv
  obtain ⟨rfl, rfl, rfl, rfl⟩ := hv
  exact ⟨_, _, _, _, _, _, _, _, rfl, rfl, rfl, rfl, fun a w => enters_ Try.func67 (by kernel_rfl) rfl a w, fun a w => enters_ Try.func69 (by kernel_rfl) rfl a w, fun a w => enters_ Try.func71 (by kernel_rfl) rfl a w, fun a w => enters_ Try.func72 (by kernel_rfl) rfl a w⟩
 | blob h' =>
  obtain ⟨a, hv, _⟩ := h
  simp only [Value.agg.injEq, Array.mk.injEq, List.cons.injEq, and_true] at hv
  obtain ⟨rfl, rfl, rfl, rfl⟩ := hv
  exact ⟨_, _, _, _, _, _, _, _, rfl, rfl, rfl, rfl, fun a w => enters_ Try.func73 (by kernel_rfl) rfl a w, fun a w => enters_ Try.func74 (by kernel_rfl) rfl a w, fun a w => enters_ Try.func75 (by kernel_rfl) rfl a w, fun a w => enters_ Try.func76 (by kernel_rfl) rfl a w⟩
structure DecSt (w wr : World) (g f cg n : Nat) (F : Flds) (dv : Value) (A : Option Addr) (n' c' : Nat) (ys : List Int) : Prop where
 rest : ProJ.Rest wr g f A n' c' ys
 fd : FdAt wr f F dv
 code : Blk wr cg #[.int .i64 0] 28
 data : DataAt wr (w.heap.size + 3) g f dv F.data
 below : Below w.heap.size w wr
 size : w.heap.size + 3 ≤ wr.heap.size
 len : n' ≤ n
theorem DecSt.below' {w wr w' : World} {g f cg n n' c' : Nat} {F : Flds} {dv : Value} {A : Option Addr} {ys : List Int} (h : DecSt w wr g f cg n F dv A n' c' ys) (hb : Below wr.heap.size wr w') : DecSt w w' g f cg n F dv A n' c' ys :=
  ⟨⟨Blk.below h.rest.at_ hb, BytesAt.below (B := 0) h.rest.bytes hb, h.rest.u8, h.rest.ng, h.rest.nf, h.rest.le⟩, Blk.below h.fd hb, Blk.below h.code hb, Kd.R_below h.data hb, h.below.trans (hb.mono h.below.size), by have := h.size; have := hb.size; omega, h.len⟩
theorem DecSt.read {w wr w' : World} {g f cg n n' c' k c2 : Nat} {F F' : Flds} {dv dv' : Value} {A A2 : Option Addr} {ys : List Int} (h : DecSt w wr g f cg n F dv A n' c' ys) (hr : ProJ.Rest w' g f A2 (n' - k) c2 (ys.drop k)) (hf : FdAt w' f F' dv') (hd : DataAt w' (w.heap.size + 3) g f dv' F'.data) (ht : Tu [g, f] wr w') (hg : w.heap.size ≤ g) (hff : w.heap.size ≤ f) (hcg : cg ≠ g ∧ cg ≠ f) : DecSt w w' g f cg n F' dv' A2 (n' - k) c2 (ys.drop k) :=
  ⟨hr, hf, Blk.tu h.code ht (by simp; exact hcg), hd, h.below.trans (ht.below h.below.size (by simp; omega)), by have := h.size; have := ht.size; omega, by have := h.len; omega⟩
theorem dec_err {w w' : World} {F : Flds} {B : Option Addr} {m c : Nat} {q : Int} {r : Except Int Flds} (hr : r = .error q) (hb : Below w.heap.size w w') : DecPost w r (.returned (.tuple #[.agg (Flds.cells F (.slice B m c)), .int .i64 q])) w' := by
 subst hr
 exact ⟨F, B, m, c, q, rfl, hb, rfl⟩
theorem dec_end {w wr w' : World} {g n n' c' : Nat} {F : Flds} {B : Option Addr} {m c : Nat} {A : Option Addr} {ys : List Int} {r : Except Int Flds} (h : DecSt w wr g w.heap.size (w.heap.size + 1) n F (.slice B m c) A n' c' ys) (ht : Tu [w.heap.size, w.heap.size + 1] wr w') (hr : r = .ok F) : DecPost w r (.returned (.tuple #[.agg (Flds.cells F (.slice B m c)), .int .i64 0])) w' := by
 subst hr
 refine ⟨F, B, m, c, 0, rfl, h.below.trans (ht.below h.below.size (by simp)), rfl, rfl, ?_⟩
 exact Kd.R_lower (Kd.R_mono (own_tu h.data ht (by simp)) (fun _ _ => trivial)) (by omega)
set_option maxHeartbeats 4000000 in
set_option maxRecDepth 100000 in
theorem decode_ok (tab : List (List PS)) (w : World) (lo hi tg tc n c : Nat) (A : Option Addr) (xs : List Int)
  (ht : TabAt w lo hi (.slice (some ⟨tg, 0, none⟩) tab.length tc) tab) (hhi : hi ≤ w.heap.size) (hs : ∀ ps ∈ tab, ∀ p ∈ ps, psmall p) (hx : BytesAt w A n xs) (hu : u8s xs) (hc : n ≤ c) (hA : ∀ a, A = some a → a.block < w.heap.size) (hbig : n ≤ 140737488350000) (hl3 : ∀ ps ∈ tab, ps.length ≤ 1000) :
  Calls Try.prog 46 #[.slice (some ⟨tg, 0, none⟩) tab.length tc, .slice A n c] w (DecPost w (decS tab xs)) := by
 have hm := hmf
 have hlen := BytesAt.len hx
 go_enter_defers Try.func46, Try.ntmps46
 go_wp2_with fail
 generalize hW0 : (((w.alloc (Obj.cells #[Value.int IntKind.i64 0, Value.int IntKind.i64 0, Value.int IntKind.i64 0, Value.int IntKind.i64 0, Value.string { data := #[] }, Value.slice none 0 0] 71)).alloc (Obj.cells #[Value.int IntKind.i64 0] 28)).alloc (Obj.cells #[Value.slice A n c] 99)) = W0
 have bf : FdAt W0 w.heap.size (fd0 0) (.slice none 0 0) := by rw [← hW0]; exact blkOld (blkOld (blkNew rfl))
 have bc : Blk W0 (w.heap.size + 1) #[.int .i64 0] 28 := by rw [← hW0]; exact blkOld (blkNew (by simp))
 have br : RdAt W0 (w.heap.size + 1 + 1) A n c := by rw [← hW0]; exact blkNew (by simp)
 have hB0 : Below w.heap.size w W0 := by rw [← hW0]; go_grown
 have hsz : W0.heap.size = w.heap.size + 3 := by rw [← hW0]; simp
 clear hW0
 have hx0 : BytesAt W0 A n xs := Kd.C_below hx hB0
 by_cases h1 : n < 1
 ·
  refine Calls.mono (rnumber_no _ A n c 1 W0 br h1) ?_
  rintro e w2 ⟨rfl, rfl⟩
  refine dec_panic _ _ _ rfl rfl W0 121 0 (fd0 0) (.slice none 0 0) bf bc (by omega) ?_
  intro w' ht'
  refine dec_err ?_ (hB0.trans (ht'.below (by omega) (by simp)))
  unfold decS
  rw [if_pos (by omega)]
 ·
  have hk := len1_eq hu 1
  generalize hkk : len1 xs 1 = k at hk
  have hk255 := be_lt hu 1
  refine Calls.mono (rnumber_ok _ A n c 1 W0 xs br hx0 hu (fun a ha _ => by have := hA a ha; omega) (by omega) (by omega) hc) ?_
  rintro e w2 ⟨rfl, hw2⟩
  have bf2 : FdAt w2 w.heap.size (fd0 0) (.slice none 0 0) := by rw [← hw2]; exact Blk.other bf (by simp; omega) _
  have bc2 : Blk w2 (w.heap.size + 1) #[.int .i64 0] 28 := by rw [← hw2]; exact Blk.other bc (by simp) _
  have br2 : RdAt w2 (w.heap.size + 1 + 1) (adv A c 1) (n - 1) (c - 1) := by rw [← hw2]; exact Blk.set (i := 0) br _
  have ht2 : Tu [w.heap.size + 1 + 1] W0 w2 := by rw [← hw2]; exact (Tu.refl _ _).setCell (.inl (by simp)) _
  clear hw2
  rw [hk]
  have cf2 : w2.cell? ⟨w.heap.size, 0, none⟩ = some (.int .i64 0) := Blk.cell (i := 0) bf2 rfl
  have cz2 := Blk.frozen (i := 0) bf2
  have bf3 : FdAt (w2.setCell ⟨w.heap.size, 0, none⟩ (.int .i64 k)) w.heap.size (fd0 k) (.slice none 0 0) := Blk.set (i := 0) bf2 _
  have bc3 : Blk (w2.setCell ⟨w.heap.size, 0, none⟩ (.int .i64 k)) (w.heap.size + 1) #[.int .i64 0] 28 := Blk.other bc2 (by simp) _
  have br3 : RdAt (w2.setCell ⟨w.heap.size, 0, none⟩ (.int .i64 k)) (w.heap.size + 1 + 1) (adv A c 1) (n - 1) (c - 1) := Blk.other br2 (by simp; omega) _
  have ht3 : Tu [w.heap.size + 1 + 1, w.heap.size] W0 (w2.setCell ⟨w.heap.size, 0, none⟩ (.int .i64 k)) := (ht2.mono (fun i hi => .inl (by simp at hi ⊢; exact .inl hi))).setCell (.inl (by simp)) _
  have hB3 : Below w.heap.size w (w2.setCell ⟨w.heap.size, 0, none⟩ (.int .i64 k)) := hB0.trans (ht3.below (by omega) (by simp; omega))
  have hs3 := ht3.size
  have cf3 : (w2.setCell ⟨w.heap.size, 0, none⟩ (.int .i64 k)).cell? ⟨w.heap.size, 0, none⟩ = some (.int .i64 k) := Blk.cell (i := 0) bf3 rfl
  by_cases q1 : 1 ≤ k
  ·
   have d1 : decide ((k : Int) ≥ 1) = true := by simp; omega
   by_cases q2 : k < tab.length
   ·
    have d2 : decide ((k : Int) < (tab.length : Int)) = true := by simp; omega
    obtain ⟨ps, hps⟩ : ∃ ps, tab[k]? = some ps := ⟨_, List.getElem?_eq_getElem q2⟩
    have hsp : ∀ p ∈ ps, psmall p := hs ps (List.mem_of_getElem? hps)
    have hl4 := hl3 ps (List.mem_of_getElem? hps)
    clear hl3
    have hdec : decS tab xs = decParts ps (xs.drop 1) (fd0 k) := by
     unfold decS
     rw [if_neg (by omega), hk, Int.toNat_natCast, hps]
     simp only
     rw [if_neg (by omega)]
    obtain ⟨tg', tc', he, t1, t2, hrows⟩ := ht
    injection he with he1 he2 he3
    injection he1 with he4
    injection he4 with he5
    subst he5
    subst he3
    obtain ⟨rv, hrc, hrow⟩ := hrows k ps hps
    have hrc3 := cell_keep hrc (hB3.block tg (by omega))
    obtain ⟨RA, rc, rfl, hparts⟩ := hrow
    clear hrows hrc
    have HP := Lib.hid hparts
    clear hparts
    generalize hW3 : w2.setCell ⟨w.heap.size, 0, none⟩ (.int .i64 k) = W3 at *
    have hr3 : ProJ.Rest W3 (w.heap.size + 1 + 1) w.heap.size (adv A c 1) (n - 1) (c - 1) (xs.drop 1) :=
     ⟨br3, BytesAt.below' (BytesAt.drop hx 1 (by omega) hc) hB3 (adv_lt hA), u8_drop hu 1, adv_ne (fun a ha => by have := hA a ha; omega), adv_ne (fun a ha => by have := hA a ha; omega), by omega⟩
    have HS := Lib.hid (show DecSt w W3 (w.heap.size + 1 + 1) w.heap.size (w.heap.size + 1) n (fd0 k) (.slice none 0 0) (adv A c 1) (n - 1) (c - 1) (xs.drop 1) from ⟨hr3, bf3, bc3, Kd.R_nil _ _ _ _ _, hB3, by omega, by omega⟩)
    have HD := Lib.hid hdec
    clear hr3 br3 ht3 ht2 hB0 bf bc br bf2 bc2 br2 hx0 hB3 bf3 bc3 hdec hx hs3
    go_wp2_with (with_reducible refine (need_yes ..).mono ?_; rintro e w4 ⟨rfl, rfl⟩)
    clear hW3 cf2 cz2
    go_loopw [33] (fun i wr => ∃ (j : Nat) (F : Flds) (dv : Value) (A' : Option Addr) (n' c' : Nat) (ys : List Int), j ≤ ps.length ∧ i = .int .i64 j ∧ Hid (DecSt w wr (w.heap.size + 1 + 1) w.heap.size (w.heap.size + 1) n F dv A' n' c' ys) ∧ Hid (decS tab xs = decParts (ps.drop j) ys F)) (fun i _ => (ps.length - (intOf i).toNat))
    case atStart => exact ⟨0, _, _, _, _, _, _, by omega, rfl, HS, HD⟩
    case round =>
     clear HS HD cf3
     obtain ⟨j, F, dv, A', n', c', ys, hj, rfl, HS, HD⟩ := hrel
     by_cases hjl : j < ps.length
     ·
      have hst := HS.out
      obtain ⟨p, hp⟩ : ∃ p, ps[j]? = some p := ⟨_, List.getElem?_eq_getElem hjl⟩
      have hsm := hsp p (List.mem_of_getElem? hp)
      have hdec : decS tab xs = decParts (p :: ps.drop (j + 1)) ys F := by rw [HD.out, List.drop_eq_getElem_cons hjl]; congr 1; have := (List.getElem?_eq_some_iff.1 hp).2; rw [this]
      obtain ⟨g, hRA, g1, g2, f0, f1, f2, f3, e0, e1, e2, e3, hpt⟩ := HP.out j p hp
      clear hrc3
      subst hRA
      have hgb := hst.below.block g (by omega)
      rw [Nat.mul_comm] at e0 e1 e2 e3
      obtain ⟨n0, cp0, n1, cp1, n2, cp2, n3, cp3, rfl, rfl, rfl, rfl, en0, en1, _, _⟩ := PartAt.fns hpt
      have ec0 := fun v => en0 (#[pt (w.heap.size + 1 + 1), pt w.heap.size] ++ cp0) v
      have ec1 := fun v => en1 (#[pt w.heap.size] ++ cp1) v
      have k0 := cell_keep e0 hgb
      have k1 := cell_keep e1 hgb
      have k2 := cell_keep e2 hgb
      have k3 := cell_keep e3 hgb
      have HPT := Lib.hid hpt
      have HST := Lib.hid hst
      have HDD := Lib.hid hdec
      have dl : decide ((j : Int) < (ps.length : Int)) = true := by simp; omega
      clear e0 e1 e2 e3 hpt hst HS HD hdec hp hgb hs
      go_wp2_with fail
      have hst0 := HST.out
      have hB1 : Below wr.heap.size wr (wr.alloc (Obj.cells #[Value.func (Fn.func n0) #[] cp0, Value.func (Fn.func n1) #[] cp1, Value.func (Fn.func n2) #[] cp2, Value.func (Fn.func n3) #[] cp3] 91)) := ba _
      have hbp : Blk (wr.alloc (Obj.cells #[Value.func (Fn.func n0) #[] cp0, Value.func (Fn.func n1) #[] cp1, Value.func (Fn.func n2) #[] cp2, Value.func (Fn.func n3) #[] cp3] 91)) wr.heap.size #[Value.func (Fn.func n0) #[] cp0, Value.func (Fn.func n1) #[] cp1, Value.func (Fn.func n2) #[] cp2, Value.func (Fn.func n3) #[] cp3] 91 := blkNew rfl
      generalize wr.alloc (Obj.cells #[Value.func (Fn.func n0) #[] cp0, Value.func (Fn.func n1) #[] cp1, Value.func (Fn.func n2) #[] cp2, Value.func (Fn.func n3) #[] cp3] 91) = W1 at hB1 hbp ⊢
      have hst1 := hst0.below' hB1
      have hsz0 := hst0.size
      have hpt1 : PartAt W1 lo hi (.agg #[fnv n0 cp0, fnv n1 cp1, fnv n2 cp2, fnv n3 cp3]) p := HPT.out.step (fun q _ hq => hst1.below.block q (by omega)) (Nat.le_refl _) (Nat.le_refl _)
      clear hst0 HST k0 k1 k2 k3 hB1
      refine (FCalls.calls (part_read p W1 lo hi (w.heap.size + 3) (w.heap.size + 1 + 1) w.heap.size n' c' _ _ _ _ dv A' ys F hpt1 hsm hst1.rest hst1.fd hst1.data (by omega) hst1.size (by have := hst1.len; omega))).mono ?_
      intro e w2 hpost
      cases hrd : rdS p ys F with
      | none =>
       rw [hrd] at hpost
       obtain ⟨rfl, ht⟩ := hpost
       obtain ⟨B, cB, rfl, _⟩ := OwnRow.slice_ hst1.data.2
       go_wp2_with fail
       refine dec_panic _ _ _ rfl rfl w2 121 0 F _ (hst1.fd.tu ht (by simp; omega)) (hst1.code.tu ht (by simp)) (by omega) ?_
       intro w' ht'
       refine dec_err ?_ ((hst1.below.trans (ht.below (by have := hst1.size; omega) (by simp; omega))).trans (ht'.below (by have := hst1.size; have := ht.size; omega) (by simp)))
       rw [HDD.out]
       simp only [decParts]
       rw [hrd]
      | some r =>
       obtain ⟨F', k'⟩ := r
       rw [hrd] at hpost
       obtain ⟨A2, c2, dv2, rfl, hr2, hf2, hd2, ht2⟩ := hpost
       have hst2 := hst1.read hr2 hf2 hd2 ht2 (by omega) (by omega) (by omega)
       have hbp2 := Blk.tu hbp ht2 (by simp; omega)
       have hpt2 : PartAt w2 lo hi (.agg #[fnv n0 cp0, fnv n1 cp1, fnv n2 cp2, fnv n3 cp3]) p := HPT.out.step (fun q _ hq => hst2.below.block q (by omega)) (Nat.le_refl _) (Nat.le_refl _)
       obtain ⟨B, cB, rfl, _⟩ := OwnRow.slice_ hd2.2
       have kb := Blk.cell (i := 1) hbp2 rfl
       have HST2 := Lib.hid hst2
       have HF2 := Lib.hid hf2
       have HP2 := Lib.hid hpt2
       have HRD := Lib.hid hrd
       clear hst1 hst2 hr2 hf2 hd2 ht2 hbp hbp2 hpt1 hpt2 hrd
       go_wp2_with fail
       refine (FCalls.calls (part_fits p w2 lo hi w.heap.size _ _ _ _ B _ cB F' HP2.out HF2.out rfl)).mono ?_
       rintro e w3 ⟨rfl, hb3⟩
       have hst3 := HST2.out.below' hb3
       cases hfit : fitsS p F' with
       | true =>
        go_wp2_with (with_reducible refine (need_yes ..).mono ?_; rintro e w4 ⟨rfl, rfl⟩)
        refine ⟨⟨j + 1, F', _, A2, n' - k', c2, ys.drop k', by omega, by go_num, Lib.hid hst3, Lib.hid ?_⟩, by simp [intOf]; omega⟩
        rw [HDD.out]
        simp only [decParts]
        rw [HRD.out]
        simp [hfit]
       | false =>
        go_wp2_with (with_reducible refine (need_no ..).mono ?_; rintro e w4 ⟨rfl, rfl⟩)
        refine dec_panic _ _ _ rfl rfl _ 123 0 F' _ hst3.fd hst3.code (by omega) ?_
        intro w' ht'
        refine dec_err ?_ (hst3.below.trans (ht'.below (by have := hst3.size; omega) (by simp)))
        rw [HDD.out]
        simp only [decParts]
        rw [HRD.out]
        simp [hfit]
     ·
      have hst := HS.out
      have hjj : j = ps.length := by omega
      have hys := BytesAt.len hst.rest.bytes
      have hdec : decS tab xs = if ys = [] then .ok F else .error 121 := by rw [HD.out, hjj, List.drop_length]; rfl
      have HDD := Lib.hid hdec
      have HST := Lib.hid hst
      have HYS := Lib.hid hys
      have hrd := Blk.cell (i := 0) hst.rest.at_ rfl
      obtain ⟨B, cB, rfl, _⟩ := OwnRow.slice_ hst.data.2
      obtain ⟨c0, c1, c2, c3, c4, c5⟩ := fdCells hst.fd
      have z0 := Blk.frozen (i := 0) hst.fd
      have z1 := Blk.frozen (i := 1) hst.fd
      have z2 := Blk.frozen (i := 2) hst.fd
      have z3 := Blk.frozen (i := 3) hst.fd
      have z4 := Blk.frozen (i := 4) hst.fd
      have z5 := Blk.frozen (i := 5) hst.fd
      have y0 := Blk.frozen (i := 0) hst.code
      have x0 := Blk.cell (i := 0) hst.code rfl
      clear hst hys hdec HS HD
      have dl : decide ((j : Int) < (ps.length : Int)) = false := by simp; omega
      by_cases hn : n' = 0
      ·
       have dn : ((n' : Int) == 0) = true := by rw [hn]; rfl
       clear hjj
       go_wp2_with (with_reducible refine (need_yes ..).mono ?_; rintro e w4 ⟨rfl, rfl⟩)
       have hst := HST.out
       refine dec_ret _ _ _ rfl rfl _ 0 F (.slice B F.data.length cB) ?_ ?_ ?_
       · exact Blk.other (Blk.set (i := 5) (Blk.set (i := 4) (Blk.set (i := 3) (Blk.set (i := 2) (Blk.set (i := 1) (Blk.set (i := 0) hst.fd _) _) _) _) _) _) (by simp) _
       · exact Blk.set (i := 0) (Blk.other (Blk.other (Blk.other (Blk.other (Blk.other (Blk.other hst.code (by simp) _) (by simp) _) (by simp) _) (by simp) _) (by simp) _) (by simp) _) _
       ·
        refine dec_end hst ((((((((Tu.refl _ _).setCell (.inl (by simp)) _).setCell (.inl (by simp)) _).setCell (.inl (by simp)) _).setCell (.inl (by simp)) _).setCell (.inl (by simp)) _).setCell (.inl (by simp)) _).setCell (.inl (by simp)) _) ?_
        rw [HDD.out, if_pos]
        exact List.eq_nil_of_length_eq_zero (by rw [HYS.out]; exact hn)
      ·
       have dn : ((n' : Int) == 0) = false := by simp; omega
       clear hjj
       go_wp2_with (with_reducible refine (need_no ..).mono ?_; rintro e w4 ⟨rfl, rfl⟩)
       have hst := HST.out
       refine dec_panic _ _ _ rfl rfl _ 121 0 F _ hst.fd hst.code (by omega) ?_
       intro w' ht'
       refine dec_err ?_ (hst.below.trans (ht'.below (by have := hst.size; omega) (by simp)))
       rw [HDD.out, if_neg]
       intro e
       have := HYS.out
       rw [e] at this
       simp at this
       omega
   ·
    have d2 : decide ((k : Int) < (tab.length : Int)) = false := by simp; omega
    go_wp2_with (with_reducible refine (need_no ..).mono ?_; rintro e w4 ⟨rfl, rfl⟩)
    refine dec_panic _ _ _ rfl rfl _ 122 0 (fd0 k) (.slice none 0 0) bf3 bc3 (by omega) ?_
    intro w' ht'
    refine dec_err ?_ (hB3.trans (ht'.below (by omega) (by simp)))
    unfold decS
    rw [if_neg (by omega), hk, Int.toNat_natCast, List.getElem?_eq_none (by omega)]
  ·
   have d1 : decide ((k : Int) ≥ 1) = false := by simp; omega
   go_wp2_with (with_reducible refine (need_no ..).mono ?_; rintro e w4 ⟨rfl, rfl⟩)
   refine dec_panic _ _ _ rfl rfl _ 122 0 (fd0 k) (.slice none 0 0) bf3 bc3 (by omega) ?_
   intro w' ht'
   refine dec_err ?_ (hB3.trans (ht'.below (by omega) (by simp)))
   unfold decS
   rw [if_neg (by omega), hk, Int.toNat_natCast]
   split
   · rfl
   · rw [if_pos (by omega)]
end Go.Proofs.Ytpflenaoplblkaa.ProM
end
section
namespace Go.Proofs.Ytpflenaoplblkaa.ProN
open Go.RowKit YtpflenaoplblkaaW.PrintWords YtpflenaoplblkaaW.PrintLast ProA ProB ProC ProI ProD ProE ProF ProG ProH ProJ ProK ProL ProM
set_option linter.unusedVariables false
set_option linter.unusedSimpArgs false
structure TabOk (tab : List (List PS)) : Prop where
 small : ∀ ps ∈ tab, ∀ p ∈ ps, psmall p
 len : ∀ ps ∈ tab, ps.length ≤ 1000
 most : tab.length ≤ 1000
theorem msgTab_ok : TabOk msgTab := ⟨by simp [msgTab, psmall], by simp [msgTab], by simp [msgTab]⟩
theorem repTab_ok : TabOk repTab := ⟨by simp [repTab, psmall], by simp [repTab], by simp [repTab]⟩
def cutS (tab : List (List PS)) (xs : List Int) : Except Int (Option (Flds × Nat)) :=
 if xs.length < 4 then .ok none else
 if be (xs.take 4) < 1 ∨ 262400 < be (xs.take 4) then .error 121 else
 if xs.length < 4 + len1 xs 4 then .ok none else
 match decS tab ((xs.drop 4).take (len1 xs 4)) with
 | .error q => .error q
 | .ok F => .ok (some (F, 4 + len1 xs 4))
def CutPost (w : World) (r : Except Int (Option (Flds × Nat))) (e : Ending) (w' : World) : Prop :=
 ∃ (F : Flds) (B : Option Addr) (m c : Nat) (size code : Int), e = .returned (.tuple #[.agg (Flds.cells F (.slice B m c)), .int .i64 size, .int .i64 code]) ∧ Below w.heap.size w w' ∧
  match r with
  | .error q => code = q
  | .ok none => code = 0 ∧ size = 0
  | .ok (some (F', k)) => code = 0 ∧ size = k ∧ F = F' ∧ Own w' w.heap.size (fun _ => True) (.slice B m c) F.data
theorem BytesAt.lt {w : World} {A : Option Addr} {n : Nat} {xs : List Int} (h : BytesAt w A n xs) (hn : 0 < n) : ∀ a, A = some a → a.block < w.heap.size := by
 intro a ha
 obtain ⟨ad, e, hc⟩ := BytesAt.at_ h 0 hn
 rw [ha] at e
 injection e with e
 subst e
 have := World.block_lt_of_cell? w _ hc
 rwa [Addr.add_zero'] at this
theorem BytesAt.nums {w : World} {A : Option Addr} {n : Nat} {xs : List Int} (h : BytesAt w A n xs) : ReadsInt w .u8 A n xs := Kd.reads_of_C (enc := Value.int .u8) (d := (0 : Int)) (h1 := fun _ => rfl) h
theorem BytesAt.of {w : World} {A : Option Addr} {n : Nat} {xs : List Int} (h : ReadsInt w .u8 A n xs) : BytesAt w A n xs := Kd.C_of_reads h
theorem u8_take {xs : List Int} (h : u8s xs) (k : Nat) : u8s (xs.take k) := fun x hx => h x (List.mem_of_mem_take hx)
theorem info5' : ∃ i, Try.prog.info? 5 = some i ∧ i.size = 1 := by
 obtain ⟨i, h1, h2⟩ := Option.map_eq_some_iff.1 info5
 simp only [Prod.mk.injEq] at h2
 exact ⟨i, h1, h2.2.1⟩
theorem cut_wait {w w' : World} {r : Except Int (Option (Flds × Nat))} (hr : r = .ok none) (hb : Below w.heap.size w w') : CutPost w r (.returned (.tuple #[.agg (Flds.cells (fd0 0) (.slice none 0 0)), .int .i64 0, .int .i64 0])) w' := by
 subst hr
 exact ⟨_, _, _, _, _, _, rfl, hb, rfl, rfl⟩
theorem cut_err {w w' : World} {r : Except Int (Option (Flds × Nat))} {F : Flds} {B : Option Addr} {m c : Nat} {q size : Int} (hr : r = .error q) (hb : Below w.heap.size w w') : CutPost w r (.returned (.tuple #[.agg (Flds.cells F (.slice B m c)), .int .i64 size, .int .i64 q])) w' := by
 subst hr
 exact ⟨_, _, _, _, _, _, rfl, hb, rfl⟩
theorem fd_set6 {W : World} {g : Nat} {F F' : Flds} {dv dv' : Value} (h : FdAt W g F dv) : FdAt ((((((W.setCell ⟨g, 0, none⟩ (.int .i64 F'.kind)).setCell ⟨g, 1, none⟩ (.int .i64 F'.tn)).setCell ⟨g, 2, none⟩ (.int .i64 F'.n)).setCell ⟨g, 3, none⟩ (.int .i64 F'.m)).setCell ⟨g, 4, none⟩ (.string F'.name)).setCell ⟨g, 5, none⟩ dv') g F' dv' := by
 have h1 := Blk.set (i := 5) (Blk.set (i := 4) (Blk.set (i := 3) (Blk.set (i := 2) (Blk.set (i := 1) (Blk.set (i := 0) h (.int .i64 F'.kind)) (.int .i64 F'.tn)) (.int .i64 F'.n)) (.int .i64 F'.m)) (.string F'.name)) dv'
 exact h1
theorem tu_set6 (W : World) (g : Nat) (F' : Flds) (dv' : Value) : Tu [g] W ((((((W.setCell ⟨g, 0, none⟩ (.int .i64 F'.kind)).setCell ⟨g, 1, none⟩ (.int .i64 F'.tn)).setCell ⟨g, 2, none⟩ (.int .i64 F'.n)).setCell ⟨g, 3, none⟩ (.int .i64 F'.m)).setCell ⟨g, 4, none⟩ (.string F'.name)).setCell ⟨g, 5, none⟩ dv') :=
  ((((((Tu.refl _ _).setCell (.inl (by simp)) _).setCell (.inl (by simp)) _).setCell (.inl (by simp)) _).setCell (.inl (by simp)) _).setCell (.inl (by simp)) _).setCell (.inl (by simp)) _
theorem cut_end {R : Ending → World → Prop} (T : Array Value) (f : Nat) (size code : Int) (h4 : T[4]?.getD undef = pt f) (h5 : T[5]?.getD undef = .int .i64 size) (h6 : T[6]?.getD undef = .int .i64 code) (W : World) (F : Flds) (dv : Value) (hf : FdAt W f F dv)
  (hR : R (.returned (.tuple #[.agg (Flds.cells F dv), .int .i64 size, .int .i64 code])) W) :
  bodyPost Try.prog Try.f24 R Exit.ret { tmps := T, defers := [] } W := by
 obtain ⟨c0, c1, c2, c3, c4, c5⟩ := fdCells hf
 exact bodyPost_ret (v := .tuple #[.agg (Flds.cells F dv), .int .i64 size, .int .i64 code]) (by simp [results, Try.results24, go_sem, h4, h5, h6, c0, c1, c2, c3, c4, c5, Flds.cells]) rfl hR
set_option maxHeartbeats 4000000 in
set_option maxRecDepth 100000 in
theorem cut_ok (tab : List (List PS)) (w : World) (lo hi c : Nat) (tv : Value) (A : Option Addr) (xs : List Int)
  (ht : TabAt w lo hi tv tab) (hhi : hi ≤ w.heap.size) (hs : TabOk tab) (hx : BytesAt w A xs.length xs) (hu : u8s xs) (hc : xs.length ≤ c) (hbig : xs.length ≤ 140737488350000) :
  Calls Try.prog 24 #[tv, .slice A xs.length c] w (CutPost w (cutS tab xs)) := by
 obtain ⟨tg, tc, rfl, htg⟩ := id ht
 clear htg
 have HT := Lib.hid ht
 have HX := Lib.hid hx
 clear ht hx
 by_cases h4 : xs.length < 4
 ·
  have d1 : decide ((xs.length : Int) < 4) = true := by simp; omega
  have hr : cutS tab xs = .ok none := by unfold cutS; rw [if_pos (by omega)]
  have HR := Lib.hid hr
  clear hr
  go_enter Try.func24, Try.ntmps24
  go_wp2_with fail
  exact cut_end _ _ 0 0 rfl rfl rfl _ (fd0 0) (.slice none 0 0) (blkNew rfl) (cut_wait HR.out (by go_grown))
 ·
  have d1 : decide ((xs.length : Int) < 4) = false := by simp; omega
  have hk := len1_eq hu 4
  generalize hkk : len1 xs 4 = k at hk
  have HK := Lib.hid hk
  have HKK := Lib.hid hkk
  go_enter Try.func24, Try.ntmps24
  go_wp2_with fail
  refine Calls.mono (rnumber_ok _ A xs.length c 4 _ xs (blkNew (by simp)) (BytesAt.below (B := 0) HX.out (by go_grown)) hu (fun a ha _ => by have := BytesAt.lt HX.out (by omega) a ha; omega) (by omega) (by omega) hc) ?_
  rw [hk]
  clear hk hkk
  rintro e w2 ⟨rfl, hw2⟩
  have hb2 : Below w.heap.size w w2 := by rw [← hw2]; go_grown
  have hf2 : FdAt w2 w.heap.size (fd0 0) (.slice none 0 0) := by rw [← hw2]; exact Blk.other (blkOld (blkNew rfl)) (by simp) _
  clear hw2
  obtain ⟨c0, c1, c2, c3, c4, c5⟩ := fdCells hf2
  have z0 := Blk.frozen (i := 0) hf2
  have z1 := Blk.frozen (i := 1) hf2
  have z2 := Blk.frozen (i := 2) hf2
  have z3 := Blk.frozen (i := 3) hf2
  have z4 := Blk.frozen (i := 4) hf2
  have z5 := Blk.frozen (i := 5) hf2
  have HB2 := Lib.hid hb2
  have HF2 := Lib.hid hf2
  have hs2 := hb2.size
  clear hb2 hf2
  simp only [fd0] at c0 c1 c2 c3 c4
  by_cases q1 : (k : Int) < 1
  ·
   have d2 : decide ((k : Int) < 1) = true := by simpa using q1
   have HR := Lib.hid (show cutS tab xs = .error 121 by unfold cutS; rw [if_neg (by omega), if_pos (by rw [HK.out]; omega)])
   go_wp2_with fail
   exact cut_end _ _ 0 121 rfl rfl rfl _ (fd0 0) (.slice none 0 0) (Blk.set (i := 5) (Blk.set (i := 4) (Blk.set (i := 3) (Blk.set (i := 2) (Blk.set (i := 1) (Blk.set (i := 0) HF2.out _) _) _) _) _) _) (cut_err HR.out (HB2.out.trans (Tu.below (S := [w.heap.size]) ((((((((Tu.refl _ _).setCell (.inl (by simp)) _).setCell (.inl (by simp)) _).setCell (.inl (by simp)) _).setCell (.inl (by simp)) _).setCell (.inl (by simp)) _).setCell (.inl (by simp)) _)) (by omega) (by simp))))
  ·
   have d2 : decide ((k : Int) < 1) = false := by simpa using q1
   by_cases q2 : (262400 : Int) < (k : Int)
   ·
    have d3 : decide ((k : Int) > 262400) = true := by simpa using q2
    have HR := Lib.hid (show cutS tab xs = .error 121 by unfold cutS; rw [if_neg (by omega), if_pos (by rw [HK.out]; omega)])
    go_wp2_with fail
    exact cut_end _ _ 0 121 rfl rfl rfl _ (fd0 0) (.slice none 0 0) (Blk.set (i := 5) (Blk.set (i := 4) (Blk.set (i := 3) (Blk.set (i := 2) (Blk.set (i := 1) (Blk.set (i := 0) HF2.out _) _) _) _) _) _) (cut_err HR.out (HB2.out.trans (Tu.below (S := [w.heap.size]) ((((((((Tu.refl _ _).setCell (.inl (by simp)) _).setCell (.inl (by simp)) _).setCell (.inl (by simp)) _).setCell (.inl (by simp)) _).setCell (.inl (by simp)) _).setCell (.inl (by simp)) _)) (by omega) (by simp))))
   ·
    have d3 : decide ((k : Int) > 262400) = false := by simpa using q2
    by_cases q3 : xs.length < 4 + k
    ·
     have d4 : decide ((xs.length : Int) < 4 + (k : Int)) = true := by simp; omega
     have HR := Lib.hid (show cutS tab xs = .ok none by unfold cutS; rw [if_neg (by omega), if_neg (by rw [HK.out]; omega), if_pos (by rw [HKK.out]; omega)])
     go_wp2_with fail
     exact cut_end _ _ 0 0 rfl rfl rfl _ (fd0 0) (.slice none 0 0) (Blk.set (i := 5) (Blk.set (i := 4) (Blk.set (i := 3) (Blk.set (i := 2) (Blk.set (i := 1) (Blk.set (i := 0) HF2.out _) _) _) _) _) _) (cut_wait HR.out (HB2.out.trans (Tu.below (S := [w.heap.size]) ((((((((Tu.refl _ _).setCell (.inl (by simp)) _).setCell (.inl (by simp)) _).setCell (.inl (by simp)) _).setCell (.inl (by simp)) _).setCell (.inl (by simp)) _).setCell (.inl (by simp)) _)) (by omega) (by simp))))
    ·
     have d4 : decide ((xs.length : Int) < 4 + (k : Int)) = false := by simp; omega
     obtain ⟨i5, hi5, hz5⟩ := info5'
     obtain ⟨A', hrun, hread, hcap⟩ := print_mid_int (P := Try.prog) (k := .u8) 22 5 Try.underlying22 hi5 hz5 A c xs 4 (4 + (k : Int)) (by omega) (by omega) (by omega) hc
     have hcut : (xs.take ((4 + (k : Int)).toNat)).drop (4 : Int).toNat = (xs.drop 4).take k := by
      rw [show (4 + (k : Int)).toNat = 4 + k by omega, show (4 : Int).toNat = 4 from rfl, List.drop_take]
      congr 1
      omega
     rw [hcut] at hrun hread hcap
     have hl2 : ((xs.drop 4).take k).length = k := by simp; omega
     rw [hl2] at hrun hread hcap
     have HRD := Lib.hid hread
     have HL2 := Lib.hid hl2
     clear hread hcut hl2 hi5 hz5
     go_wp2_with fail
     refine (decode_ok tab w2 lo hi tg tc k (c - 4) A' _ (HT.out.step (fun q _ hq => HB2.out.block q (by omega)) (Nat.le_refl _) (Nat.le_refl _)) (by omega) hs.small (BytesAt.of (HRD.out w2 (BytesAt.nums (BytesAt.below (B := 0) HX.out (HB2.out.mono (Nat.le_refl _)))))) (u8_take (u8_drop hu 4) k) (by omega) ?_ (by omega) hs.len).mono ?_
     ·
      intro a ha
      exact BytesAt.lt (BytesAt.of (HRD.out w2 (BytesAt.nums (BytesAt.below (B := 0) HX.out HB2.out)))) (by omega) a ha
     rintro e w3 ⟨F, B, m, c', code, rfl, hb3, hcase⟩
     have hlt2 := Blk.lt HF2.out
     have HB3 := Lib.hid (HB2.out.trans (hb3.mono hs2))
     have hf3 := Blk.below HF2.out hb3
     obtain ⟨c0, c1, c2, c3, c4, c5⟩ := fdCells hf3
     have z0 := Blk.frozen (i := 0) hf3
     have z1 := Blk.frozen (i := 1) hf3
     have z2 := Blk.frozen (i := 2) hf3
     have z3 := Blk.frozen (i := 3) hf3
     have z4 := Blk.frozen (i := 4) hf3
     have z5 := Blk.frozen (i := 5) hf3
     have hs3 := HB3.out.size
     have HF3 := Lib.hid hf3
     have HC := Lib.hid hcase
     clear hb3 hf3 hcase HF2
     simp only [fd0] at c0 c1 c2 c3 c4
     unfold Flds.cells
     go_upto_region 10 with (fail)
     have hf4 : FdAt ((((((w3.setCell ⟨w.heap.size, 0, none⟩ (.int .i64 F.kind)).setCell ⟨w.heap.size, 1, none⟩ (.int .i64 F.tn)).setCell ⟨w.heap.size, 2, none⟩ (.int .i64 F.n)).setCell ⟨w.heap.size, 3, none⟩ (.int .i64 F.m)).setCell ⟨w.heap.size, 4, none⟩ (.string F.name)).setCell ⟨w.heap.size, 5, none⟩ (.slice B m c')) w.heap.size F (.slice B m c') := fd_set6 HF3.out
     have ht4 := tu_set6 w3 w.heap.size F (.slice B m c')
     generalize ((((((w3.setCell ⟨w.heap.size, 0, none⟩ (.int .i64 F.kind)).setCell ⟨w.heap.size, 1, none⟩ (.int .i64 F.tn)).setCell ⟨w.heap.size, 2, none⟩ (.int .i64 F.n)).setCell ⟨w.heap.size, 3, none⟩ (.int .i64 F.m)).setCell ⟨w.heap.size, 4, none⟩ (.string F.name)).setCell ⟨w.heap.size, 5, none⟩ (.slice B m c')) = W4 at hf4 ht4 ⊢
     clear c0 c1 c2 c3 c4 c5 z0 z1 z2 z3 z4 z5
     obtain ⟨c0, c1, c2, c3, c4, c5⟩ := fdCells hf4
     have z0 := Blk.frozen (i := 0) hf4
     have z1 := Blk.frozen (i := 1) hf4
     have z2 := Blk.frozen (i := 2) hf4
     have z3 := Blk.frozen (i := 3) hf4
     have z4 := Blk.frozen (i := 4) hf4
     have z5 := Blk.frozen (i := 5) hf4
     have HF4 := Lib.hid hf4
     have HT4 := Lib.hid ht4
     clear hf4 ht4
     go_wp2_with fail
     refine cut_end _ _ (4 + (k : Int)) code rfl rfl rfl _ F (.slice B m c') (fd_set6 HF4.out) ?_
     have ht := HT4.out.trans (tu_set6 W4 w.heap.size F (.slice B m c'))
     have hB4 := HB3.out.trans (ht.below (by omega) (by simp))
     have hcut : cutS tab xs = match decS tab ((xs.drop 4).take k) with | .error q => .error q | .ok F => .ok (some (F, 4 + k)) := by
      unfold cutS
      rw [if_neg (by omega), if_neg (by rw [HK.out]; omega), if_neg (by rw [HKK.out]; omega), HKK.out]
     rw [hcut]
     refine ⟨F, B, m, c', 4 + (k : Int), code, rfl, hB4, ?_⟩
     have hc1 := HC.out
     cases hd : decS tab ((xs.drop 4).take k) with
     | error q =>
      rw [hd] at hc1
      exact hc1
     | ok F' =>
      rw [hd] at hc1
      obtain ⟨h1, h2, h3⟩ := hc1
      refine ⟨h1, by simp, h2.symm, ?_⟩
      exact Kd.R_lower (Kd.R_mono (own_tu h3 ht (by simp; omega)) (fun _ _ => trivial)) hs2
end Go.Proofs.Ytpflenaoplblkaa.ProN
end
section
namespace Go.Proofs.Ytpflenaoplblkaa.ProO
open Go.RowKit YtpflenaoplblkaaW.PrintWords YtpflenaoplblkaaW.PrintLast ProA ProB ProC ProI ProD ProE ProF ProG ProH ProJ ProK ProL ProM ProN
set_option linter.unusedVariables false
set_option linter.unusedSimpArgs false
structure S35 where
 f0 : Int
 f1 : Int
 f2 : ByteArray
 f3 : Int
 f4 : (List Int)
def z35 : S35 := ⟨(0 : Int), (0 : Int), (⟨#[]⟩ : ByteArray), (0 : Int), ([] : List Int)⟩
def k35 : Kd S35 := Kd.iso (Kd.pair (Kd.int .i64) (Kd.pair (Kd.int .i64) (Kd.pair Kd.string (Kd.pair (Kd.int .i64) (Kd.slice 5 (Kd.int .u8)))))) (fun x : S35 => (x.f0, x.f1, x.f2, x.f3, x.f4))
theorem k35_open {w : World} {x : S35} {cs : List Value} (h : k35.K w x cs) : ∃ A4 c4, cs = [.int .i64 x.f0, .int .i64 x.f1, .string x.f2, .int .i64 x.f3, .slice A4 x.f4.length c4] ∧ x.f4.length ≤ c4 ∧ (Kd.int .u8).C w A4 x.f4.length x.f4 := by
 obtain ⟨_, _, rfl, rfl, ⟨_, _, rfl, rfl, ⟨_, _, rfl, rfl, ⟨_, _, rfl, rfl, ⟨A4, c4, rfl, l4, g4⟩⟩⟩⟩⟩ := h
 exact ⟨A4, c4, rfl, l4, g4⟩
theorem k35_openM {w : World} {base : Nat} {ok : Nat → Prop} {x : S35} {cs : List Value} (h : k35.M w base ok x cs) : ∃ v4, cs = [.int .i64 x.f0, .int .i64 x.f1, .string x.f2, .int .i64 x.f3, v4] ∧ (Kd.int .u8).R 5 w base ok v4 x.f4 := by
 obtain ⟨_, _, rfl, rfl, ⟨_, _, rfl, rfl, ⟨_, _, rfl, rfl, ⟨_, _, rfl, rfl, ⟨v4, rfl, g4⟩⟩⟩⟩⟩ := h
 exact ⟨v4, rfl, g4⟩
theorem k35_mkM (w : World) (base : Nat) (ok : Nat → Prop) (x : S35) {v4 : Value} (g4 : (Kd.int .u8).R 5 w base ok v4 x.f4) : k35.M w base ok x [.int .i64 x.f0, .int .i64 x.f1, .string x.f2, .int .i64 x.f3, v4] := ⟨[.int .i64 x.f0], [.int .i64 x.f1, .string x.f2, .int .i64 x.f3, v4], rfl, rfl, ⟨[.int .i64 x.f1], [.string x.f2, .int .i64 x.f3, v4], rfl, rfl, ⟨[.string x.f2], [.int .i64 x.f3, v4], rfl, rfl, ⟨[.int .i64 x.f3], [v4], rfl, rfl, ⟨v4, rfl, g4⟩⟩⟩⟩⟩
def rd_T35 (xs : List S35) (i : Int) : S35 := xs.getD i.toNat z35
theorem at_T35 {w : World} {A : Option Addr} {n : Nat} {xs : List S35} (h : Kd.C k35 w A n xs) (i : Int) (h0 : 0 ≤ i) (h1 : i < n) : ∃ ad A4 c4, A = some ad ∧ w.cell? (ad.add (i.toNat * 5)) = some (.int .i64 (rd_T35 xs i).f0) ∧ w.cell? ⟨(ad.add (i.toNat * 5)).block, (ad.add (i.toNat * 5)).off + 1, none⟩ = some (.int .i64 (rd_T35 xs i).f1) ∧ w.cell? ⟨(ad.add (i.toNat * 5)).block, (ad.add (i.toNat * 5)).off + 2, none⟩ = some (.string (rd_T35 xs i).f2) ∧ w.cell? ⟨(ad.add (i.toNat * 5)).block, (ad.add (i.toNat * 5)).off + 3, none⟩ = some (.int .i64 (rd_T35 xs i).f3) ∧ w.cell? ⟨(ad.add (i.toNat * 5)).block, (ad.add (i.toNat * 5)).off + 4, none⟩ = some (.slice A4 (rd_T35 xs i).f4.length c4) ∧ (rd_T35 xs i).f4.length ≤ c4 ∧ (Kd.int .u8).C w A4 (rd_T35 xs i).f4.length (rd_T35 xs i).f4 := by
 obtain ⟨ad, c, e, _, hK, hc0⟩ := Kd.C_get h z35 i h0 h1
 have hc : ∀ j u, c[j]? = some u → w.cell? (ad.add (i.toNat * 5 + j)) = some u := hc0
 obtain ⟨A4, c4, rfl, l4, g4⟩ := k35_open hK
 exact ⟨ad, A4, c4, e, hc 0 _ rfl, by rw [← add_field _ _ 1 (by omega)]; exact hc 1 _ rfl, by rw [← add_field _ _ 2 (by omega)]; exact hc 2 _ rfl, by rw [← add_field _ _ 3 (by omega)]; exact hc 3 _ rfl, by rw [← add_field _ _ 4 (by omega)]; exact hc 4 _ rfl, l4, g4⟩
structure S44 where
 f0 : Int
 f1 : Int
 f2 : Int
 f3 : (List Int)
def z44 : S44 := ⟨(0 : Int), (0 : Int), (0 : Int), ([] : List Int)⟩
def k44 : Kd S44 := Kd.iso (Kd.pair (Kd.int .i64) (Kd.pair (Kd.int .i64) (Kd.pair (Kd.int .i64) (Kd.slice 5 (Kd.int .u8))))) (fun x : S44 => (x.f0, x.f1, x.f2, x.f3))
theorem k44_open {w : World} {x : S44} {cs : List Value} (h : k44.K w x cs) : ∃ A3 c3, cs = [.int .i64 x.f0, .int .i64 x.f1, .int .i64 x.f2, .slice A3 x.f3.length c3] ∧ x.f3.length ≤ c3 ∧ (Kd.int .u8).C w A3 x.f3.length x.f3 := by
 obtain ⟨_, _, rfl, rfl, ⟨_, _, rfl, rfl, ⟨_, _, rfl, rfl, ⟨A3, c3, rfl, l3, g3⟩⟩⟩⟩ := h
 exact ⟨A3, c3, rfl, l3, g3⟩
theorem k44_openM {w : World} {base : Nat} {ok : Nat → Prop} {x : S44} {cs : List Value} (h : k44.M w base ok x cs) : ∃ v3, cs = [.int .i64 x.f0, .int .i64 x.f1, .int .i64 x.f2, v3] ∧ (Kd.int .u8).R 5 w base ok v3 x.f3 := by
 obtain ⟨_, _, rfl, rfl, ⟨_, _, rfl, rfl, ⟨_, _, rfl, rfl, ⟨v3, rfl, g3⟩⟩⟩⟩ := h
 exact ⟨v3, rfl, g3⟩
theorem k44_mkM (w : World) (base : Nat) (ok : Nat → Prop) (x : S44) {v3 : Value} (g3 : (Kd.int .u8).R 5 w base ok v3 x.f3) : k44.M w base ok x [.int .i64 x.f0, .int .i64 x.f1, .int .i64 x.f2, v3] := ⟨[.int .i64 x.f0], [.int .i64 x.f1, .int .i64 x.f2, v3], rfl, rfl, ⟨[.int .i64 x.f1], [.int .i64 x.f2, v3], rfl, rfl, ⟨[.int .i64 x.f2], [v3], rfl, rfl, ⟨v3, rfl, g3⟩⟩⟩⟩
def rd_T44 (xs : List S44) (i : Int) : S44 := xs.getD i.toNat z44
theorem at_T44 {w : World} {A : Option Addr} {n : Nat} {xs : List S44} (h : Kd.C k44 w A n xs) (i : Int) (h0 : 0 ≤ i) (h1 : i < n) : ∃ ad A3 c3, A = some ad ∧ w.cell? (ad.add (i.toNat * 4)) = some (.int .i64 (rd_T44 xs i).f0) ∧ w.cell? ⟨(ad.add (i.toNat * 4)).block, (ad.add (i.toNat * 4)).off + 1, none⟩ = some (.int .i64 (rd_T44 xs i).f1) ∧ w.cell? ⟨(ad.add (i.toNat * 4)).block, (ad.add (i.toNat * 4)).off + 2, none⟩ = some (.int .i64 (rd_T44 xs i).f2) ∧ w.cell? ⟨(ad.add (i.toNat * 4)).block, (ad.add (i.toNat * 4)).off + 3, none⟩ = some (.slice A3 (rd_T44 xs i).f3.length c3) ∧ (rd_T44 xs i).f3.length ≤ c3 ∧ (Kd.int .u8).C w A3 (rd_T44 xs i).f3.length (rd_T44 xs i).f3 := by
 obtain ⟨ad, c, e, _, hK, hc0⟩ := Kd.C_get h z44 i h0 h1
 have hc : ∀ j u, c[j]? = some u → w.cell? (ad.add (i.toNat * 4 + j)) = some u := hc0
 obtain ⟨A3, c3, rfl, l3, g3⟩ := k44_open hK
 exact ⟨ad, A3, c3, e, hc 0 _ rfl, by rw [← add_field _ _ 1 (by omega)]; exact hc 1 _ rfl, by rw [← add_field _ _ 2 (by omega)]; exact hc 2 _ rfl, by rw [← add_field _ _ 3 (by omega)]; exact hc 3 _ rfl, l3, g3⟩
def msgOf (F : Flds) : S35 := ⟨F.kind, F.tn, F.name, F.n, F.data⟩
def repOf (F : Flds) : S44 := ⟨F.kind, F.n, F.m, F.data⟩
set_option maxRecDepth 100000 in
theorem message_any (F : Flds) (B : Option Addr) (m c : Nat) (w : World) : Calls Try.prog 26 #[.agg (F.cells (.slice B m c))] w fun e w' => e = .returned (.agg #[.int .i64 F.kind, .int .i64 F.tn, .string F.name, .int .i64 F.n, .slice B m c]) ∧ Below w.heap.size w w' := by
 unfold Flds.cells
 go_enter Try.func26, Try.ntmps26
 go_wp2_with fail
 exact bodyPost_ret (v := .agg #[.int .i64 F.kind, .int .i64 F.tn, .string F.name, .int .i64 F.n, .slice B m c]) (by simp [results, Try.results26, go_sem]) rfl ⟨rfl, by go_grown⟩
set_option maxRecDepth 100000 in
theorem reply_any (F : Flds) (B : Option Addr) (m c : Nat) (w : World) : Calls Try.prog 29 #[.agg (F.cells (.slice B m c))] w fun e w' => e = .returned (.agg #[.int .i64 F.kind, .int .i64 F.n, .int .i64 F.m, .slice B m c]) ∧ Below w.heap.size w w' := by
 unfold Flds.cells
 go_enter Try.func29, Try.ntmps29
 go_wp2_with fail
 exact bodyPost_ret (v := .agg #[.int .i64 F.kind, .int .i64 F.n, .int .i64 F.m, .slice B m c]) (by simp [results, Try.results29, go_sem]) rfl ⟨rfl, by go_grown⟩
theorem own_empty (W : World) (base : Nat) (ok : Nat → Prop) (hb : base ≤ W.heap.size) (h : ok W.heap.size) : Own (W.alloc (.cells #[] 5)) base ok (.slice (some ⟨W.heap.size, 0, none⟩) 0 0) [] :=
 ⟨fun k hk => by
  have : W.heap.size = k := by simpa [Value.ownBlock] using hk
  subst this
  exact h, OwnRow.lit W base (ps := []) (Reps.none _ _) hb (by simp)⟩
theorem app_bytes {ops : Array Oper} {rest : List Oper} {o : Oper} {a : Act} {Q : Exit → Act → World → Prop} {w0 W : World} (base : Nat) (hgd : o.guard = none) (s x : Operand)
  (ho : o.op = .call { callee := .builtin .append, args := #[s, x], argTypes := #[22, 22] }) (v : Value) (xs ys : List Int) (A : Option Addr) (m c : Nat) (ok : Nat → Prop) (hs : a.eval s = v) (hx : a.eval x = .slice A m c)
  (HO : Own W base ok v xs) (HR : BytesAt W A m ys) (hfresh : ∀ k, W.heap.size ≤ k → ok k) (HB : Below base w0 W) (hbase : base ≤ W.heap.size) (hl : xs.length + m ≤ 140737488355328)
  (h : ∀ v1 w1, Own w1 base ok v1 (xs ++ ys) → Below base w0 w1 → W.grownBy w1 v.ownBlock → (v1.ownBlock = v.ownBlock ∨ ∃ b, v1.ownBlock = some b ∧ W.heap.size ≤ b) → wpList Try.prog ops Q rest (a.put o.dst v1) w1) :
  wpList Try.prog ops Q (o :: rest) a W :=
 Kd.R_append_rows (Kd.int .u8) (Rr := (Kd.int .u8).K W) (w0 := w0) base hgd s x 22 5 (.int .u8 0) 1 ho Try.underlying22 info5 rfl (by decide) (by omega) v xs ys A m c ok (fun _ => False) hs hx HO HR (fun _ _ h => h) (fun _ h => h.elim) hfresh HB hbase (by omega) h
def ClonePost (w : World) (xs : List Int) (e : Ending) (w' : World) : Prop := ∃ v, e = .returned v ∧ Own w' w.heap.size (fun _ => True) v xs ∧ Below w.heap.size w w'
set_option maxRecDepth 100000 in
theorem clone_ok (A : Option Addr) (xs : List Int) (c : Nat) (w : World) (hx : BytesAt w A xs.length xs) (hbig : xs.length ≤ 140737488350000) : Calls Try.prog 25 #[.slice A xs.length c] w (ClonePost w xs) := by
 have hn := @Lib.run_eql_slice_nil Try.prog
 cases A with
 | none =>
  have h0 : xs = [] := by
   cases xs with
   | nil => rfl
   | cons x l =>
    obtain ⟨ad, e, _⟩ := BytesAt.at_ hx 0 (by simp)
    cases e
  subst h0
  go_enter Try.func25, Try.ntmps25
  go_wp2_with fail
  go_ret
  exact ⟨_, rfl, Kd.R_nil _ _ _ _ _, Below.refl _ _⟩
 | some ad =>
  have HX := Lib.hid hx
  clear hx
  go_enter Try.func25, Try.ntmps25
  go_wp2_with (at_builtin; refine app_bytes (w0 := w) w.heap.size rfl (.tmp 5) (.tmp 6) rfl _ [] xs (some ad) xs.length c (fun _ => True) rfl rfl (own_empty w w.heap.size _ (Nat.le_refl _) trivial) (BytesAt.below (B := 0) HX.out (ba _)) (fun _ _ => trivial) (ba _) (by simp) (by simp; omega) ?_; intro v1 w1 ho hb hg hat; clear hg hat)
  go_ret
  exact ⟨_, rfl, ho, hb⟩
end Go.Proofs.Ytpflenaoplblkaa.ProO
end
section
namespace Go.Proofs.Ytpflenaoplblkaa.ProP
open Go.RowKit YtpflenaoplblkaaW.PrintWords YtpflenaoplblkaaW.PrintLast ProA ProB ProC ProI ProD ProE ProF ProG ProH ProJ ProK ProL ProM ProN ProO
set_option linter.unusedVariables false
set_option linter.unusedSimpArgs false
def feedL (tab : List (List PS)) : Nat → List Int → List Flds × Int × List Int
 | 0, b => ([], 0, b)
 | k + 1, b => match cutS tab b with
  | .error q => ([], q, [])
  | .ok none => ([], 0, b)
  | .ok (some (F, n)) => (F :: (feedL tab k (b.drop n)).1, (feedL tab k (b.drop n)).2)
def feedS (tab : List (List PS)) (b : List Int) : List Flds × Int × List Int := feedL tab (b.length + 1) b
theorem cutS_some {tab : List (List PS)} {b : List Int} {F : Flds} {n : Nat} (h : cutS tab b = .ok (some (F, n))) : 5 ≤ n ∧ n ≤ b.length ∧ n ≤ 262404 := by
 unfold cutS at h
 by_cases h1 : b.length < 4
 · rw [if_pos h1] at h; cases h
 rw [if_neg h1] at h
 by_cases h2 : be (b.take 4) < 1 ∨ 262400 < be (b.take 4)
 · rw [if_pos h2] at h; cases h
 rw [if_neg h2] at h
 by_cases h3 : b.length < 4 + len1 b 4
 · rw [if_pos h3] at h; cases h
 rw [if_neg h3] at h
 cases hd : decS tab ((b.drop 4).take (len1 b 4)) with
 | error q => rw [hd] at h; cases h
 | ok F' =>
  rw [hd] at h
  simp only [Except.ok.injEq, Option.some.injEq, Prod.mk.injEq] at h
  obtain ⟨_, rfl⟩ := h
  have : len1 b 4 = (be (b.take 4)).toNat := rfl
  omega
theorem decParts_err {ps : List PS} : ∀ {xs : List Int} {F : Flds} {q : Int}, decParts ps xs F = .error q → q = 121 ∨ q = 123 := by
 induction ps with
 | nil =>
  intro xs F q h
  simp only [decParts] at h
  split at h
  · cases h
  · injection h with h; exact .inl h.symm
 | cons p ps ih =>
  intro xs F q h
  simp only [decParts] at h
  split at h
  · injection h with h; exact .inl h.symm
  ·
   split at h
   · exact ih h
   · injection h with h; exact .inr h.symm
theorem decS_err {tab : List (List PS)} {xs : List Int} {q : Int} (h : decS tab xs = .error q) : q = 121 ∨ q = 122 ∨ q = 123 := by
 unfold decS at h
 split at h
 · injection h with h; exact .inl h.symm
 ·
  split at h
  · injection h with h; exact .inr (.inl h.symm)
  ·
   split at h
   · injection h with h; exact .inr (.inl h.symm)
   ·
    rcases decParts_err h with h | h
    · exact .inl h
    · exact .inr (.inr h)
theorem cutS_err {tab : List (List PS)} {b : List Int} {q : Int} (h : cutS tab b = .error q) : q = 121 ∨ q = 122 ∨ q = 123 := by
 unfold cutS at h
 split at h
 · cases h
 split at h
 · injection h with h; exact .inl h.symm
 split at h
 · cases h
 split at h
 ·
  rename_i q' hd
  injection h with h
  subst h
  exact decS_err hd
 · cases h
theorem feedL_more {tab : List (List PS)} : ∀ (k : Nat) (b : List Int), b.length < k → feedL tab (k + 1) b = feedL tab k b := by
 intro k
 induction k with
 | zero => intro b h; omega
 | succ k ih =>
  intro b h
  rw [feedL]
  conv => rhs; rw [feedL]
  cases hc : cutS tab b with
  | error q => rfl
  | ok r =>
   cases r with
   | none => rfl
   | some x =>
    obtain ⟨F, n⟩ := x
    obtain ⟨h1, h2, _⟩ := cutS_some hc
    have : (b.drop n).length < k := by rw [List.length_drop]; omega
    simp only
    rw [ih _ this]
theorem feedL_enough {tab : List (List PS)} (b : List Int) : ∀ (j : Nat), feedL tab (b.length + 1 + j) b = feedS tab b
 | 0 => rfl
 | j + 1 => by rw [show b.length + 1 + (j + 1) = (b.length + 1 + j) + 1 by omega, feedL_more _ _ (by omega)]; exact feedL_enough b j
theorem feedS_err {tab : List (List PS)} {b : List Int} {q : Int} (h : cutS tab b = .error q) : feedS tab b = ([], q, []) := by
 unfold feedS feedL
 rw [h]
theorem feedS_wait {tab : List (List PS)} {b : List Int} (h : cutS tab b = .ok none) : feedS tab b = ([], 0, b) := by
 unfold feedS feedL
 rw [h]
theorem feedS_step {tab : List (List PS)} {b : List Int} {F : Flds} {n : Nat} (h : cutS tab b = .ok (some (F, n))) : feedS tab b = (F :: (feedS tab (b.drop n)).1, (feedS tab (b.drop n)).2) := by
 obtain ⟨h1, h2, _⟩ := cutS_some h
 conv => lhs; unfold feedS feedL
 rw [h]
 simp only
 have e : b.length = (b.drop n).length + 1 + (n - 1) := by rw [List.length_drop]; omega
 rw [e, feedL_enough]
def lenV : Value → Nat | .slice _ n _ => n | _ => 0
set_option maxRecDepth 100000 in
theorem feed_dead (w : World) (g : Nat) (wv : Value) (A : Option Addr) (n c : Nat) (hd : Blk w g #[wv, .bool true] 67) :
  Calls Try.prog 10 #[pt g, .slice A n c] w fun e w' => e = .returned (.tuple #[.slice none 0 0, .int .i64 124]) ∧ w = w' := by
 have h1 : w.cell? ⟨g, 1, none⟩ = some (.bool true) := Blk.cell (i := 1) hd rfl
 go_enter Try.func10, Try.ntmps10
 go_wp2_with fail
 go_ret2
 exact ⟨rfl, rfl⟩
structure FeedSt (w2 wr : World) (lv : Value) (ms : List Flds) (A : Option Addr) (c : Nat) (bs : List Int) (all : List Int) : Prop where
 below : Below w2.heap.size w2 wr
 row : Kd.R k35 35 wr w2.heap.size (fun _ => True) lv (ms.map msgOf)
 bytes : BytesAt w2 A bs.length bs
 u8 : u8s bs
 cap : bs.length ≤ c
 len : bs.length ≤ all.length
 count : ms.length + bs.length ≤ all.length
 eq : feedS msgTab all = (ms ++ (feedS msgTab bs).1, (feedS msgTab bs).2)
theorem rowKeep {α : Type} {d : Kd α} {e : Nat} {w2 wr w' : World} {S : List Nat} {lv : Value} {xs : List α} (h : d.R e wr w2.heap.size (fun _ => True) lv xs) (ht : Tu S wr w') (hS : ∀ k, k ∈ S → k < w2.heap.size) : d.R e w' w2.heap.size (fun k => w2.heap.size ≤ k ∧ k < wr.heap.size) lv xs :=
  Kd.R_mono (Kd.R_move (Kd.R_bound h) (fun k hk => ht.block k hk.2.2.1 (fun hm => by have := hS k hm; have := hk.2.1; omega))) (fun k hk => ⟨hk.2.1, hk.2.2.1⟩)
theorem info35 : (Try.prog.info? 35).map (fun i => (i.zero, i.size, i.bytes)) = some (some (.agg #[.int .i64 0, .int .i64 0, .string ⟨#[]⟩, .int .i64 0, .slice none 0 0]), 5, 64) := by kernel_rfl
end Go.Proofs.Ytpflenaoplblkaa.ProP
end
