import Derived.Test.YtpflenaoplblkaaProG
namespace Go.Proofs.Ytpflenaoplblkaa.ProH
open Go.RowKit Go.Proofs.YtpflenaoplblkaaW.PrintWords Go.Proofs.YtpflenaoplblkaaW.PrintLast Go.Proofs.Ytpflenaoplblkaa.ProA Go.Proofs.Ytpflenaoplblkaa.ProB Go.Proofs.Ytpflenaoplblkaa.ProC Go.Proofs.Ytpflenaoplblkaa.ProG
set_option linter.unusedVariables false
set_option linter.unusedSimpArgs false
/-- a kind's parts in memory -/
def RowAt (w : World) (lo hi : Nat) (v : Value) (ps : List PS) : Prop :=
  ∃ A c, v = .slice A ps.length c ∧ ∀ i p, ps[i]? = some p → ∃ g, A = some ⟨g, 0, none⟩ ∧ lo ≤ g ∧ g < hi ∧ ∃ f0 f1 f2 f3,
    w.cell? ⟨g, 4 * i, none⟩ = some f0 ∧ w.cell? ⟨g, 4 * i + 1, none⟩ = some f1 ∧ w.cell? ⟨g, 4 * i + 2, none⟩ = some f2 ∧ w.cell? ⟨g, 4 * i + 3, none⟩ = some f3 ∧ PartAt w lo hi (.agg #[f0, f1, f2, f3]) p
/-- a table of kinds in memory -/
def TabAt (w : World) (lo hi : Nat) (v : Value) (tab : List (List PS)) : Prop :=
  ∃ g c, v = .slice (some ⟨g, 0, none⟩) tab.length c ∧ lo ≤ g ∧ g < hi ∧ ∀ i ps, tab[i]? = some ps → ∃ rv, w.cell? ⟨g, i, none⟩ = some rv ∧ RowAt w lo hi rv ps
theorem cell_keep {w w' : World} {g i : Nat} {v : Value} (h : w.cell? ⟨g, i, none⟩ = some v) (hb : w'.heap[g]? = w.heap[g]?) : w'.cell? ⟨g, i, none⟩ = some v := (World.cell?_of_block (w := w) hb).trans h
theorem RowAt.step {w w' : World} {lo hi lo' hi' : Nat} {v : Value} {ps : List PS} (h : RowAt w lo hi v ps) (hb : ∀ k, lo ≤ k → k < hi → w'.heap[k]? = w.heap[k]?) (h1 : lo' ≤ lo) (h2 : hi ≤ hi') : RowAt w' lo' hi' v ps := by
  obtain ⟨A, c, rfl, hp⟩ := h
  refine ⟨A, c, rfl, fun i p hi => ?_⟩
  obtain ⟨g, e, g1, g2, f0, f1, f2, f3, c0, c1, c2, c3, hpt⟩ := hp i p hi
  have := hb g g1 g2
  exact ⟨g, e, by omega, by omega, f0, f1, f2, f3, cell_keep c0 this, cell_keep c1 this, cell_keep c2 this, cell_keep c3 this, hpt.step hb h1 h2⟩
theorem TabAt.step {w w' : World} {lo hi lo' hi' : Nat} {v : Value} {tab : List (List PS)} (h : TabAt w lo hi v tab) (hb : ∀ k, lo ≤ k → k < hi → w'.heap[k]? = w.heap[k]?) (h1 : lo' ≤ lo) (h2 : hi ≤ hi') : TabAt w' lo' hi' v tab := by
  obtain ⟨g, c, rfl, g1, g2, hp⟩ := h
  refine ⟨g, c, rfl, by omega, by omega, fun i ps hi => ?_⟩
  obtain ⟨rv, hc, hr⟩ := hp i ps hi
  exact ⟨rv, cell_keep hc (hb g g1 g2), hr.step hb h1 h2⟩
theorem rowNil {w : World} {lo hi : Nat} {A : Option Addr} {c : Nat} : RowAt w lo hi (.slice A 0 c) [] := ⟨A, c, rfl, fun i p hi => by simp at hi⟩
theorem row1 {w : World} {lo hi g : Nat} {f0 f1 f2 f3 : Value} {p : PS} (hb : Blk w g #[f0, f1, f2, f3] 91) (h1 : lo ≤ g) (h2 : g < hi) (hp : PartAt w lo hi (.agg #[f0, f1, f2, f3]) p) {c : Nat} : RowAt w lo hi (.slice (some ⟨g, 0, none⟩) 1 c) [p] := by
  refine ⟨_, c, rfl, fun i q hi => ?_⟩
  obtain rfl : i = 0 := by have := (List.getElem?_eq_some_iff.1 hi).1; simp at this; exact this
  obtain rfl : p = q := by simpa using hi
  exact ⟨g, rfl, h1, h2, f0, f1, f2, f3, Blk.cell hb rfl, Blk.cell hb rfl, Blk.cell hb rfl, Blk.cell hb rfl, hp⟩
theorem row2 {w : World} {lo hi g : Nat} {f0 f1 f2 f3 e0 e1 e2 e3 : Value} {p q : PS} (hb : Blk w g #[f0, f1, f2, f3, e0, e1, e2, e3] 91) (h1 : lo ≤ g) (h2 : g < hi) (hp : PartAt w lo hi (.agg #[f0, f1, f2, f3]) p) (hq : PartAt w lo hi (.agg #[e0, e1, e2, e3]) q) {c : Nat} : RowAt w lo hi (.slice (some ⟨g, 0, none⟩) 2 c) [p, q] := by
  refine ⟨_, c, rfl, fun i r hi => ?_⟩
  have hlt := (List.getElem?_eq_some_iff.1 hi).1
  simp at hlt
  have : i = 0 ∨ i = 1 := by omega
  rcases this with rfl | rfl
  · obtain rfl : p = r := by simpa using hi
    exact ⟨g, rfl, h1, h2, f0, f1, f2, f3, Blk.cell hb rfl, Blk.cell hb rfl, Blk.cell hb rfl, Blk.cell hb rfl, hp⟩
  · obtain rfl : q = r := by simpa using hi
    exact ⟨g, rfl, h1, h2, e0, e1, e2, e3, Blk.cell hb rfl, Blk.cell hb rfl, Blk.cell hb rfl, Blk.cell hb rfl, hq⟩
theorem row3 {w : World} {lo hi g : Nat} {f0 f1 f2 f3 e0 e1 e2 e3 d0 d1 d2 d3 : Value} {p q s : PS} (hb : Blk w g #[f0, f1, f2, f3, e0, e1, e2, e3, d0, d1, d2, d3] 91) (h1 : lo ≤ g) (h2 : g < hi) (hp : PartAt w lo hi (.agg #[f0, f1, f2, f3]) p) (hq : PartAt w lo hi (.agg #[e0, e1, e2, e3]) q) (hs : PartAt w lo hi (.agg #[d0, d1, d2, d3]) s) {c : Nat} : RowAt w lo hi (.slice (some ⟨g, 0, none⟩) 3 c) [p, q, s] := by
  refine ⟨_, c, rfl, fun i r hi => ?_⟩
  have hlt := (List.getElem?_eq_some_iff.1 hi).1
  simp at hlt
  have : i = 0 ∨ i = 1 ∨ i = 2 := by omega
  rcases this with rfl | rfl | rfl
  · obtain rfl : p = r := by simpa using hi
    exact ⟨g, rfl, h1, h2, f0, f1, f2, f3, Blk.cell hb rfl, Blk.cell hb rfl, Blk.cell hb rfl, Blk.cell hb rfl, hp⟩
  · obtain rfl : q = r := by simpa using hi
    exact ⟨g, rfl, h1, h2, e0, e1, e2, e3, Blk.cell hb rfl, Blk.cell hb rfl, Blk.cell hb rfl, Blk.cell hb rfl, hq⟩
  · obtain rfl : s = r := by simpa using hi
    exact ⟨g, rfl, h1, h2, d0, d1, d2, d3, Blk.cell hb rfl, Blk.cell hb rfl, Blk.cell hb rfl, Blk.cell hb rfl, hs⟩
theorem bt {a b c : World} (h : Below a.heap.size a b) (g : Below b.heap.size b c) : Below a.heap.size a c := h.trans (g.mono h.size)
theorem ba {a : World} (o : Obj) : Below a.heap.size a (a.alloc o) := (Below.refl _ _).alloc (Nat.le_refl _) o
def RowsAt (w : World) (lo hi : Nat) : List Value → List (List PS) → Prop
  | [], [] => True
  | r :: rs, t :: ts => RowAt w lo hi r t ∧ RowsAt w lo hi rs ts
  | _, _ => False
theorem RowsAt.get {w : World} {lo hi : Nat} : ∀ {rows : List Value} {tab : List (List PS)}, RowsAt w lo hi rows tab → rows.length = tab.length ∧ ∀ (i : Nat) (ps : List PS), tab[i]? = some ps → ∃ rv, rows[i]? = some rv ∧ RowAt w lo hi rv ps
  | [], [], _ => ⟨rfl, fun i ps h => by simp at h⟩
  | r :: rs, t :: ts, h => by
    obtain ⟨h1, h2⟩ := RowsAt.get h.2
    refine ⟨by simp [h1], fun i ps hi => ?_⟩
    cases i with
    | zero =>
      obtain rfl : t = ps := by simpa using hi
      exact ⟨r, rfl, h.1⟩
    | succ i => exact h2 i ps (by simpa using hi)
  | [], _ :: _, h => h.elim
  | _ :: _, [], h => h.elim
theorem tabOf {w : World} {lo hi g c : Nat} {rows : List Value} {tab : List (List PS)} (hb : Blk w g rows.toArray 96) (h1 : lo ≤ g) (h2 : g < hi) (h : RowsAt w lo hi rows tab) : TabAt w lo hi (.slice (some ⟨g, 0, none⟩) tab.length c) tab := by
  refine ⟨g, c, rfl, h1, h2, fun i ps hi => ?_⟩
  obtain ⟨rv, hr, hrow⟩ := h.get.2 i ps hi
  exact ⟨rv, Blk.cell hb (by simpa using hr), hrow⟩
def msgTab : List (List PS) := [[], [.num .tn 1 1 8, .name, .blob 262144], [.num .n 1 0 255], [.num .n 2 1 600], [], [], [.num .n 2 0 65535], []]
def repTab : List (List PS) := [[], [.num .n 4 0 131072], [], [.num .n 2 1 65535], [.num .n 4 0 4294967295, .num .m 4 0 4294967295], [.num .n 4 0 4294967295, .blob 5760], [.num .n 4 0 131072], [.num .n 1 0 255], [.num .n 4 0 4294967295], [.num .n 4 0 4294967295]]
set_option maxHeartbeats 4000000 in
set_option maxRecDepth 100000 in
theorem messages_ok (w : World) : Calls Try.prog 23 #[] w fun e w' => ∃ v, e = .returned v ∧ TabAt w' w.heap.size w'.heap.size v msgTab ∧ Below w.heap.size w w' := by
  go_enter Try.func23, Try.ntmps23
  go_wp2_with fail
  refine Calls.mono (number_ok .tn 1 1 8 _) ?_
  rintro e w1 ⟨v1, rfl, hp1, hb1⟩
  obtain ⟨x1, y1, z1, u1, q1⟩ := hp1.agg
  subst q1
  go_wp2_with fail
  refine Calls.mono (name_ok _) ?_
  rintro e w2 ⟨v2, rfl, hp2, hb2⟩
  obtain ⟨x2, y2, z2, u2, q2⟩ := hp2.agg
  subst q2
  go_wp2_with fail
  refine Calls.mono (blob_ok 262144 _) ?_
  rintro e w3 ⟨v3, rfl, hp3, hb3⟩
  obtain ⟨x3, y3, z3, u3, q3⟩ := hp3.agg
  subst q3
  go_wp2_with fail
  refine Calls.mono (number_ok .n 1 0 255 _) ?_
  rintro e w4 ⟨v4, rfl, hp4, hb4⟩
  obtain ⟨x4, y4, z4, u4, q4⟩ := hp4.agg
  subst q4
  go_wp2_with fail
  refine Calls.mono (number_ok .n 2 1 600 _) ?_
  rintro e w5 ⟨v5, rfl, hp5, hb5⟩
  obtain ⟨x5, y5, z5, u5, q5⟩ := hp5.agg
  subst q5
  go_wp2_with fail
  refine Calls.mono (number_ok .n 2 0 65535 _) ?_
  rintro e w6 ⟨v6, rfl, hp6, hb6⟩
  obtain ⟨x6, y6, z6, u6, q6⟩ := hp6.agg
  subst q6
  go_wp2
  go_ret
  generalize hwf : (((w6.alloc (Obj.cells #[x6, y6, z6, u6] 91)).alloc (Obj.cells #[] 91)).alloc
      (Obj.cells
        #[Value.slice none 0 0, Value.slice (some { block := w3.heap.size, off := 0 }) 3 3,
          Value.slice (some { block := w4.heap.size, off := 0 }) 1 1,
          Value.slice (some { block := w5.heap.size, off := 0 }) 1 1,
          Value.slice (some { block := w5.heap.size + 1, off := 0 }) 0 0,
          Value.slice (some { block := w5.heap.size + 1 + 1, off := 0 }) 0 0,
          Value.slice (some { block := w6.heap.size, off := 0 }) 1 1,
          Value.slice (some { block := w6.heap.size + 1, off := 0 }) 0 0]
        96)) = wf
  have kt : Blk wf (w6.heap.size + 1 + 1) #[Value.slice none 0 0, Value.slice (some { block := w3.heap.size, off := 0 }) 3 3,
          Value.slice (some { block := w4.heap.size, off := 0 }) 1 1,
          Value.slice (some { block := w5.heap.size, off := 0 }) 1 1,
          Value.slice (some { block := w5.heap.size + 1, off := 0 }) 0 0,
          Value.slice (some { block := w5.heap.size + 1 + 1, off := 0 }) 0 0,
          Value.slice (some { block := w6.heap.size, off := 0 }) 1 1,
          Value.slice (some { block := w6.heap.size + 1, off := 0 }) 0 0] 96 := by rw [← hwf]; exact blkNew (by simp)
  have k6 : Blk wf w6.heap.size #[x6, y6, z6, u6] 91 := by rw [← hwf]; exact blkOld (blkOld (blkNew rfl))
  have f6 : Below w6.heap.size w6 wf := by rw [← hwf]; go_grown
  clear hwf
  have g5 := bt hb6 f6
  have k5 := Blk.below (blkNew (w := w5) rfl) (bt (bt (ba _) (ba _)) g5)
  have f5 := bt (bt (bt (ba _) (ba _)) (ba _)) g5
  have g4 := bt hb5 f5
  have k4 := Blk.below (blkNew (w := w4) rfl) g4
  have f4 := bt (ba _) g4
  have g3 := bt hb4 f4
  have k3 := Blk.below (blkNew (w := w3) rfl) g3
  have f3 := bt (ba _) g3
  have f2 := bt hb3 f3
  have f1 := bt hb2 f2
  have f0 := bt hb1 f1
  have s1 := hb1.size
  have s2 := hb2.size
  have s3 := hb3.size
  have s4 := hb4.size
  have s5 := hb5.size
  have s6 := hb6.size
  have s7 := f6.size
  have s8 := kt.lt
  have r6 := hp6.below (lo' := w.heap.size) (hi' := wf.heap.size) f6 (Nat.le_refl _) (by simp only [World.size_alloc] at s4 s5 s6 ⊢; omega) s7
  have r5 := hp5.below (lo' := w.heap.size) (hi' := wf.heap.size) f5 (Nat.le_refl _) (by simp only [World.size_alloc] at s4 s5 s6 ⊢; omega) f5.size
  have r4 := hp4.below (lo' := w.heap.size) (hi' := wf.heap.size) f4 (Nat.le_refl _) (by simp only [World.size_alloc] at s4 s5 s6 ⊢; omega) f4.size
  have r3 := hp3.below (lo' := w.heap.size) (hi' := wf.heap.size) f3 (Nat.le_refl _) (by omega) f3.size
  have r2 := hp2.below (lo' := w.heap.size) (hi' := wf.heap.size) f2 (Nat.le_refl _) (by omega) f2.size
  have r1 := hp1.below (lo' := w.heap.size) (hi' := wf.heap.size) f1 (Nat.le_refl _) (by omega) f1.size
  have t3 := k3.lt
  have t4 := k4.lt
  have t5 := k5.lt
  have t6 := k6.lt
  clear hp1 hp2 hp3 hp4 hp5 hp6 f1 f2 f3 f4 f5 g3 g4 g5 f6 hb1 hb2 hb3 hb4 hb5 hb6
  simp only [World.size_alloc] at s4 s5 s6
  exact ⟨_, rfl, tabOf (tab := msgTab) (rows := [_, _, _, _, _, _, _, _]) kt (by omega) s8 ⟨rowNil, row3 k3 (by omega) t3 r1 r2 r3, row1 k4 (by omega) t4 r4, row1 k5 (by omega) t5 r5, rowNil, rowNil, row1 k6 (by omega) t6 r6, rowNil, trivial⟩, f0⟩
set_option maxHeartbeats 4000000 in
set_option maxRecDepth 100000 in
theorem replies_ok (w : World) : Calls Try.prog 28 #[] w fun e w' => ∃ v, e = .returned v ∧ TabAt w' w.heap.size w'.heap.size v repTab ∧ Below w.heap.size w w' := by
  go_enter Try.func28, Try.ntmps28
  go_wp2_with fail
  refine Calls.mono (number_ok .n 4 0 131072 _) ?_
  rintro e w1 ⟨v1, rfl, hp1, hb1⟩
  obtain ⟨x1, y1, z1, u1, q1⟩ := hp1.agg
  subst q1
  go_wp2_with fail
  refine Calls.mono (number_ok .n 2 1 65535 _) ?_
  rintro e w2 ⟨v2, rfl, hp2, hb2⟩
  obtain ⟨x2, y2, z2, u2, q2⟩ := hp2.agg
  subst q2
  go_wp2_with fail
  refine Calls.mono (number_ok .n 4 0 4294967295 _) ?_
  rintro e w3 ⟨v3, rfl, hp3, hb3⟩
  obtain ⟨x3, y3, z3, u3, q3⟩ := hp3.agg
  subst q3
  go_wp2_with fail
  refine Calls.mono (number_ok .m 4 0 4294967295 _) ?_
  rintro e w4 ⟨v4, rfl, hp4, hb4⟩
  obtain ⟨x4, y4, z4, u4, q4⟩ := hp4.agg
  subst q4
  go_wp2_with fail
  refine Calls.mono (number_ok .n 4 0 4294967295 _) ?_
  rintro e w5 ⟨v5, rfl, hp5, hb5⟩
  obtain ⟨x5, y5, z5, u5, q5⟩ := hp5.agg
  subst q5
  go_wp2_with fail
  refine Calls.mono (blob_ok 5760 _) ?_
  rintro e w6 ⟨v6, rfl, hp6, hb6⟩
  obtain ⟨x6, y6, z6, u6, q6⟩ := hp6.agg
  subst q6
  go_wp2_with fail
  refine Calls.mono (number_ok .n 4 0 131072 _) ?_
  rintro e w7 ⟨v7, rfl, hp7, hb7⟩
  obtain ⟨x7, y7, z7, u7, q7⟩ := hp7.agg
  subst q7
  go_wp2_with fail
  refine Calls.mono (number_ok .n 1 0 255 _) ?_
  rintro e w8 ⟨v8, rfl, hp8, hb8⟩
  obtain ⟨x8, y8, z8, u8, q8⟩ := hp8.agg
  subst q8
  go_wp2_with fail
  refine Calls.mono (number_ok .n 4 0 4294967295 _) ?_
  rintro e w9 ⟨v9, rfl, hp9, hb9⟩
  obtain ⟨x9, y9, z9, u9, q9⟩ := hp9.agg
  subst q9
  go_wp2_with fail
  refine Calls.mono (number_ok .n 4 0 4294967295 _) ?_
  rintro e w10 ⟨v10, rfl, hp10, hb10⟩
  obtain ⟨x10, y10, z10, u10, q10⟩ := hp10.agg
  subst q10
  go_wp2
  go_ret
  generalize hwf : ((w10.alloc (Obj.cells #[x10, y10, z10, u10] 91)).alloc (Obj.cells #[Value.slice none 0 0, Value.slice (some { block := w1.heap.size, off := 0 }) 1 1, Value.slice (some { block := w1.heap.size + 1, off := 0 }) 0 0, Value.slice (some { block := w2.heap.size, off := 0 }) 1 1, Value.slice (some { block := w4.heap.size, off := 0 }) 2 2, Value.slice (some { block := w6.heap.size, off := 0 }) 2 2, Value.slice (some { block := w7.heap.size, off := 0 }) 1 1, Value.slice (some { block := w8.heap.size, off := 0 }) 1 1, Value.slice (some { block := w9.heap.size, off := 0 }) 1 1, Value.slice (some { block := w10.heap.size, off := 0 }) 1 1] 96)) = wf
  have kt : Blk wf (w10.heap.size + 1) #[Value.slice none 0 0, Value.slice (some { block := w1.heap.size, off := 0 }) 1 1, Value.slice (some { block := w1.heap.size + 1, off := 0 }) 0 0, Value.slice (some { block := w2.heap.size, off := 0 }) 1 1, Value.slice (some { block := w4.heap.size, off := 0 }) 2 2, Value.slice (some { block := w6.heap.size, off := 0 }) 2 2, Value.slice (some { block := w7.heap.size, off := 0 }) 1 1, Value.slice (some { block := w8.heap.size, off := 0 }) 1 1, Value.slice (some { block := w9.heap.size, off := 0 }) 1 1, Value.slice (some { block := w10.heap.size, off := 0 }) 1 1] 96 := by rw [← hwf]; exact blkNew (by simp)
  have k10 : Blk wf w10.heap.size #[x10, y10, z10, u10] 91 := by rw [← hwf]; exact blkOld (blkNew rfl)
  have f10 : Below w10.heap.size w10 wf := by rw [← hwf]; go_grown
  clear hwf
  have g9 := bt hb10 f10
  have k9 := Blk.below (blkNew (w := w9) rfl) g9
  have f9 := bt (ba _) g9
  have g8 := bt hb9 f9
  have k8 := Blk.below (blkNew (w := w8) rfl) g8
  have f8 := bt (ba _) g8
  have g7 := bt hb8 f8
  have k7 := Blk.below (blkNew (w := w7) rfl) g7
  have f7 := bt (ba _) g7
  have g6 := bt hb7 f7
  have k6 := Blk.below (blkNew (w := w6) rfl) g6
  have f6 := bt (ba _) g6
  have g5 := bt hb6 f6
  have f5 := g5
  have g4 := bt hb5 f5
  have k4 := Blk.below (blkNew (w := w4) rfl) g4
  have f4 := bt (ba _) g4
  have g3 := bt hb4 f4
  have f3 := g3
  have g2 := bt hb3 f3
  have k2 := Blk.below (blkNew (w := w2) rfl) g2
  have f2 := bt (ba _) g2
  have g1 := bt hb2 f2
  have k1 := Blk.below (blkNew (w := w1) rfl) (bt (ba _) g1)
  have f1 := bt (bt (ba _) (ba _)) g1
  have f0 := bt hb1 f1
  have s1 := hb1.size
  have s2 := hb2.size
  have s3 := hb3.size
  have s4 := hb4.size
  have s5 := hb5.size
  have s6 := hb6.size
  have s7 := hb7.size
  have s8 := hb8.size
  have s9 := hb9.size
  have s10 := hb10.size
  have s11 := f10.size
  have s12 := kt.lt
  simp only [World.size_alloc] at s2 s3 s5 s7 s8 s9 s10
  have r1 := hp1.below (lo' := w.heap.size) (hi' := wf.heap.size) f1 (Nat.le_refl _) (by omega) f1.size
  have r2 := hp2.below (lo' := w.heap.size) (hi' := wf.heap.size) f2 (Nat.le_refl _) (by simp only [World.size_alloc]; omega) f2.size
  have r3 := hp3.below (lo' := w.heap.size) (hi' := wf.heap.size) f3 (Nat.le_refl _) (by simp only [World.size_alloc]; omega) f3.size
  have r4 := hp4.below (lo' := w.heap.size) (hi' := wf.heap.size) f4 (Nat.le_refl _) (by omega) f4.size
  have r5 := hp5.below (lo' := w.heap.size) (hi' := wf.heap.size) f5 (Nat.le_refl _) (by simp only [World.size_alloc]; omega) f5.size
  have r6 := hp6.below (lo' := w.heap.size) (hi' := wf.heap.size) f6 (Nat.le_refl _) (by omega) f6.size
  have r7 := hp7.below (lo' := w.heap.size) (hi' := wf.heap.size) f7 (Nat.le_refl _) (by simp only [World.size_alloc]; omega) f7.size
  have r8 := hp8.below (lo' := w.heap.size) (hi' := wf.heap.size) f8 (Nat.le_refl _) (by simp only [World.size_alloc]; omega) f8.size
  have r9 := hp9.below (lo' := w.heap.size) (hi' := wf.heap.size) f9 (Nat.le_refl _) (by simp only [World.size_alloc]; omega) f9.size
  have r10 := hp10.below (lo' := w.heap.size) (hi' := wf.heap.size) f10 (Nat.le_refl _) (by simp only [World.size_alloc]; omega) f10.size
  have t1 := k1.lt
  have t2 := k2.lt
  have t4 := k4.lt
  have t6 := k6.lt
  have t7 := k7.lt
  have t8 := k8.lt
  have t9 := k9.lt
  have t10 := k10.lt
  clear hp1 hb1 hp2 hb2 hp3 hb3 hp4 hb4 hp5 hb5 hp6 hb6 hp7 hb7 hp8 hb8 hp9 hb9 hp10 hb10 f1 f2 f3 f4 f5 f6 f7 f8 f9 f10 g1 g2 g3 g4 g5 g6 g7 g8 g9
  exact ⟨_, rfl, tabOf (tab := repTab) (rows := [_, _, _, _, _, _, _, _, _, _]) kt (by omega) s12 ⟨rowNil, row1 k1 (by omega) t1 r1, rowNil, row1 k2 (by omega) t2 r2, row2 k4 (by omega) t4 r3 r4, row2 k6 (by omega) t6 r5 r6, row1 k7 (by omega) t7 r7, row1 k8 (by omega) t8 r8, row1 k9 (by omega) t9 r9, row1 k10 (by omega) t10 r10, trivial⟩, f0⟩
end Go.Proofs.Ytpflenaoplblkaa.ProH
