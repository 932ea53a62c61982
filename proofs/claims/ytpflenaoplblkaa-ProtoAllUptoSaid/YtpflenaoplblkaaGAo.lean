import Derived.Test.YtpflenaoplblkaaGAn
section
namespace Go.Proofs.Ytpflenaoplblkaa.PaU
open Go.RowKit YtpflenaoplblkaaW.PrintWords YtpflenaoplblkaaW.PrintLast ProA ProB ProC ProI ProD ProG ProJ ProK ProL ProM ProN ProO ProP ProQ ProR ProU ProZ ProBb PaA
open ProH (msgTab repTab ba)
open ProS PaI PaJ PaK PaL
open PaM PaN PaO PaP PaQ PaR PaS PaT
set_option linter.unusedVariables false
set_option linter.unusedSimpArgs false
def Fz (w : World) (own : Nat → Nat) (t e sz : Nat) (f : Nat → Value) (z : Sl) : Prop :=
  (z = nilS) ∨ ∃ k cs, z.A = some ⟨k, 0, none⟩ ∧ own k = t ∧ w.heap[k]? = some (.cells cs e (0, 0)) ∧ z.n ≤ z.c ∧ z.c ≤ maxLen ∧ cs.size = z.c * sz ∧ ∀ j, j < z.n * sz → cs[j]? = some (f j)
def fcells (f : Nat → Value) (a n : Nat) : List Value := (List.range n).map (fun j => f (a + j))
theorem fcells_len (f : Nat → Value) (a n : Nat) : (fcells f a n).length = n := by simp [fcells]
theorem fcells_get {f : Nat → Value} {a n j : Nat} {u : Value} (h : (fcells f a n)[j]? = some u) : j < n ∧ u = f (a + j) := by
 unfold fcells at h
 rw [List.getElem?_map] at h
 cases hr : (List.range n)[j]? with
 | none => rw [hr] at h; simp at h
 | some x =>
  rw [hr] at h
  obtain ⟨h1, h2⟩ := List.getElem?_eq_some_iff.1 hr
  simp at h1 h2 h
  subst h2
  exact ⟨h1, h.symm⟩
theorem fcells_at {f : Nat → Value} {a n j : Nat} (h : j < n) : (fcells f a n)[j]? = some (f (a + j)) := by
 unfold fcells
 rw [List.getElem?_map, List.getElem?_range h]
 rfl
theorem fcells_app (f : Nat → Value) (a n m : Nat) : fcells f a n ++ fcells f (a + n) m = fcells f a (n + m) := by
 unfold fcells
 rw [List.range_add, List.map_append, List.map_map]
 congr 1
 apply List.map_congr_left
 intro j _
 simp [Nat.add_assoc]
theorem Fz.keep {w w' : World} {own own' : Nat → Nat} {t e sz : Nat} {f : Nat → Value} {z : Sl} {ts : Nat → Prop} (h : Fz w own t e sz f z) (hk : Kp ts w own w' own') (ht : ¬ ts t) : Fz w' own' t e sz f z := by
 rcases h with h | ⟨k, cs, h1, h2, h3, h4⟩
 · exact .inl h
 ·
  obtain ⟨a, b⟩ := hk.block k (blk_lt h3) (by rw [h2]; exact ht)
  exact .inr ⟨k, cs, h1, a.trans h2, b.trans h3, h4⟩
theorem Fz.of_own {w : World} {own : Nat → Nat} {t e sz base : Nat} {f : Nat → Value} {v : Value} {n : Nat} (h : w.ownsRow base e sz v n (fcells f 0 (n * sz))) (ht : ∀ k, v.ownBlock = some k → own k = t) : ∃ z, v = Sl.enc z ∧ z.n = n ∧ Fz w own t e sz f z := by
 rcases h.2 with ⟨rfl, rfl⟩ | ⟨g, cap, cur, rfl, hb, hg, hnc, hcm, hcs, htk⟩
 · exact ⟨nilS, rfl, rfl, .inl rfl⟩
 ·
  refine ⟨⟨some ⟨g, 0, none⟩, n, cap⟩, rfl, rfl, .inr ⟨g, cur, rfl, ht g rfl, hg, hnc, hcm, hcs, fun j hj => ?_⟩⟩
  have hj' : j < n * sz := hj
  have h1 := congrArg (fun l => l[j]?) htk
  simp only [List.getElem?_take_of_lt hj', Array.getElem?_toList] at h1
  rw [h1, fcells_at hj', Nat.zero_add]
theorem Fz.append {P : Program} {w W : World} {own : Nat → Nat} {tt ty t e sz bytes : Nat} {i : TypeInfo} {zv : Value} {f : Nat → Value} {z : Sl} (ht : P.underlying tt = some (.slice e)) (hi : P.info? e = some i) (hz : i.zero = some zv) (hsz : i.size = sz) (hby : i.bytes = bytes) (hzs : zv.cells.size = sz) (h0 : 0 < sz)
  (hB : Below w.heap.size w W) (h : Fz w own t e sz f z) (f1 : ∀ j, (f j).oneCell' = true) (m c : Nat) (hm : 0 < m) (hW : W.heap[w.heap.size]? = some (.cells (fcells f (z.n * sz) (m * sz)).toArray e (0, 0))) (hb : (z.n + m) * bytes ≤ 140737488355328) (hb0 : 0 < bytes) :
  ∃ v1 w1, (Builtin.append_ #[tt, tt] ty #[z.enc, .slice (some ⟨w.heap.size, 0, none⟩) m c]).run P W = .ok (Sl.enc v1) w1 ∧ v1.n = z.n + m ∧ Fz w1 (tagged w own t) t e sz f v1 ∧ (∀ z', Fz w own t e sz f z' → Fz w1 (tagged w own t) t e sz f z') ∧ Kp (fun q => q = t) w own w1 (tagged w own t) := by
 have hnews : ∀ j u, (fcells f (z.n * sz) (m * sz))[j]? = some u → W.cell? ((⟨w.heap.size, 0, none⟩ : Addr).add j) = some u := by
  intro j u hu
  rw [add_plain]
  simp [World.cell?, hW, hu]
 have hone : ∀ u ∈ fcells f (z.n * sz) (m * sz), u.oneCell' = true := by
  intro u hu
  simp only [fcells, List.mem_map] at hu
  obtain ⟨j, _, rfl⟩ := hu
  exact f1 _
 have hmb : z.n + m ≤ maxLen := by
  have : z.n + m ≤ (z.n + m) * bytes := Nat.le_mul_of_pos_right _ hb0
  simp only [maxLen]
  omega
 have hws : w.heap.size < W.heap.size := blk_lt hW
 -- a new block: everything else stays
 have grow : ∀ v1 w1, w1.ownsRow W.heap.size e sz v1 (z.n + m) (fcells f 0 ((z.n + m) * sz)) → W.grownBy w1 none → ∃ y, v1 = Sl.enc y ∧ y.n = z.n + m ∧ Fz w1 (tagged w own t) t e sz f y ∧ (∀ z', Fz w own t e sz f z' → Fz w1 (tagged w own t) t e sz f z') ∧ Kp (fun q => q = t) w own w1 (tagged w own t) := by
  intro v1 w1 ho hg
  obtain ⟨y, hy, hn, hf⟩ := Fz.of_own (own := tagged w own t) (t := t) ho (fun k hk => tagged_new (by have := own_base ho k hk; omega))
  have hbl : Below w.heap.size w w1 := hB.grown hg hB.size (fun k hk => by simp at hk)
  exact ⟨y, hy, hn, hf, fun z' hz' => Fz.keep (ts := fun _ => False) hz' (Kp.below hbl t) (fun h => h), Kp.below hbl t⟩
 rcases h with rfl | ⟨k, cs, hA, hk, hc, hnc, hcm, hcs, hr⟩
 ·
  obtain ⟨v1, w1, hrun, ho, hg, _, hat⟩ := run_append_own_at (P := P) W W.heap.size tt ty e i zv sz bytes ht hi hz hsz hby hzs h0 (.slice none 0 0) 0 [] (own_nil _ _ _ _) ⟨w.heap.size, 0, none⟩ m c _ (fcells_len _ _ _) hnews hone (by simpa [nilS] using hmb) (by simpa [nilS] using hb) (Nat.le_refl _)
  have e1 : fcells f (nilS.n * sz) (m * sz) = fcells f 0 ((nilS.n + m) * sz) := by simp [nilS]
  rw [List.nil_append, e1] at ho
  obtain ⟨y, rfl, hn, h1, h2, h3⟩ := grow v1 w1 (by simpa [nilS] using ho) hg
  exact ⟨y, w1, hrun, hn, h1, h2, h3⟩
 ·
  obtain ⟨A, n, cc⟩ := z
  have hA' : A = some ⟨k, 0, none⟩ := hA
  subst hA'
  have hkl := blk_lt hc
  have hcW : W.heap[k]? = some (.cells cs e (0, 0)) := (hB.block k hkl).trans hc
  have hnc' : n ≤ cc := hnc
  have hcs' : cs.size = cc * sz := hcs
  have hr' : ∀ j, j < n * sz → cs[j]? = some (f j) := hr
  by_cases hroom : n + m ≤ cc
  ·
   have hfit : n * sz + (fcells f (n * sz) (m * sz)).length ≤ cs.size := by
    rw [fcells_len, hcs', ← Nat.add_mul]
    exact Nat.mul_le_mul_right _ hroom
   have hrun := run_append_room (P := P) W tt ty e i ht hi k n cc cs hcW ⟨w.heap.size, 0, none⟩ m c (fcells f (n * sz) (m * sz)) (by rw [fcells_len, hsz]) hnews hone hroom (by rw [hsz]; exact hfit)
   rw [hsz] at hrun
   obtain ⟨cs2, hcs2⟩ : ∃ cs2, cs2 = (cs.toList.take (n * sz) ++ fcells f (n * sz) (m * sz) ++ cs.toList.drop (n * sz + (fcells f (n * sz) (m * sz)).length)).toArray := ⟨_, rfl⟩
   rw [← hcs2] at hrun
   rw [fcells_len] at hfit hcs2
   have hsize : cs2.size = cs.size := by
    rw [hcs2]
    simp only [List.size_toArray, List.length_append, List.length_take, List.length_drop, Array.length_toList, fcells_len]
    omega
   have hget : ∀ j, (j < (n + m) * sz ∨ cs[j]? = some (f j)) → cs2[j]? = some (f j) := by
    intro j hj
    rw [hcs2, List.getElem?_toArray, List.append_assoc]
    by_cases h1 : j < n * sz
    ·
     rw [List.getElem?_append_left (by rw [List.length_take, Array.length_toList]; omega), List.getElem?_take_of_lt h1, Array.getElem?_toList]
     exact hr' j h1
    ·
     rw [List.getElem?_append_right (by rw [List.length_take, Array.length_toList]; omega), List.length_take, Array.length_toList, Nat.min_eq_left (by omega)]
     by_cases h2 : j < (n + m) * sz
     ·
      rw [Nat.add_mul] at h2
      rw [List.getElem?_append_left (by rw [fcells_len]; omega), fcells_at (by omega)]
      congr 2
      omega
     ·
      have h3 := hj.resolve_left h2
      rw [Nat.add_mul] at h2
      rw [List.getElem?_append_right (by rw [fcells_len]; omega), fcells_len, List.getElem?_drop, Array.getElem?_toList]
      rw [← h3]
      congr 1
      omega
   have hW1 := setRow_heap W k cs cs2 e (0, 0) hcW
   have hkp : Kp (fun q => q = t) w own (W.setRow k cs2) (tagged w own t) := ⟨hB.os, hB.tape, hB.output, by show _ ≤ (W.setRow k cs2).heap.size; simp [World.setRow]; omega, fun b hb hn => ⟨tagged_old hb, (setRow_other W k b cs2 (fun e => hn (by rw [e]; exact hk))).trans (hB.block b hb)⟩⟩
   refine ⟨⟨some ⟨k, 0, none⟩, n + m, cc⟩, _, hrun, rfl, .inr ⟨k, cs2, rfl, (tagged_old hkl).trans hk, hW1, hroom, hcm, by rw [hsize]; exact hcs', fun j hj => hget j (.inl hj)⟩, fun z' hz' => ?_, hkp⟩
   rcases hz' with hz' | ⟨k', cs', a1, a2, a3, a4, a5, a6, a7⟩
   · exact .inl hz'
   ·
    by_cases hkk : k' = k
    ·
     subst hkk
     obtain rfl : cs' = cs := by rw [hc] at a3; simp at a3; exact a3.symm
     exact .inr ⟨k', cs2, a1, (tagged_old hkl).trans hk, hW1, a4, a5, by rw [hsize]; exact a6, fun j hj => hget j (.inr (a7 j hj))⟩
    · exact .inr ⟨k', cs', a1, (tagged_old (blk_lt a3)).trans a2, (setRow_other W k k' cs2 hkk).trans ((hB.block k' (blk_lt a3)).trans a3), a4, a5, a6, a7⟩
  ·
   have holds : ∀ j u, (fcells f 0 (n * sz))[j]? = some u → W.cell? ((⟨k, 0, none⟩ : Addr).add j) = some u := by
    intro j u hu
    obtain ⟨h1, h2⟩ := fcells_get hu
    rw [add_plain]
    simp [World.cell?, hcW, h2, hr' j h1]
   obtain ⟨v1, w1, hrun, ho, hg⟩ := run_append_arg_grows (P := P) W tt ty e i zv sz bytes ht hi hz hsz hby hzs h0 ⟨k, 0, none⟩ n cc (fcells f 0 (n * sz)) (fcells_len _ _ _) holds ⟨w.heap.size, 0, none⟩ m c _ (fcells_len _ _ _) hnews (by omega) hmb hb
   have e1 := fcells_app f 0 (n * sz) (m * sz)
   rw [Nat.zero_add, ← Nat.add_mul] at e1
   have ho' : w1.ownsRow W.heap.size e sz v1 (n + m) (fcells f 0 ((n + m) * sz)) := by rw [← e1]; exact ho
   obtain ⟨y, rfl, hn, h1, h2, h3⟩ := grow v1 w1 ho' hg
   exact ⟨y, w1, hrun, hn, h1, h2, h3⟩
end Go.Proofs.Ytpflenaoplblkaa.PaU
end
section
namespace Go.Proofs.Ytpflenaoplblkaa.PaV
open Go.RowKit YtpflenaoplblkaaW.PrintWords YtpflenaoplblkaaW.PrintLast ProA ProB ProC ProI ProD ProG ProJ ProK ProL ProM ProN ProO ProP ProQ ProR ProU ProZ ProBb PaA
open ProH (msgTab repTab ba)
open ProS PaI PaJ PaK PaL
open PaM PaN PaO PaP PaQ PaR PaS PaT PaU
set_option linter.unusedVariables false
set_option linter.unusedSimpArgs false
theorem ga_ {P : Program} {ops : Array Oper} {rest : List Oper} {o : Oper} {a : Act} {Q : Exit → Act → World → Prop} {w W : World} {own : Nat → Nat} {t sz bytes : Nat} {zv : Value} {f : Nat → Value} {z : Sl} (hgd : o.guard = none) (s x : Operand) (tt e : TypeId)
  (ho : o.op = .call { callee := .builtin .append, args := #[s, x], argTypes := #[tt, tt] }) (ht : P.underlying tt = some (.slice e)) (hinfo : (P.info? e).map (fun i => (i.zero, i.size, i.bytes)) = some (some zv, sz, bytes)) (hzs : zv.cells.size = sz) (h0 : 0 < sz) (hb0 : 0 < bytes) (m c : Nat) (hm : 0 < m)
  (hs : a.eval s = z.enc) (hx : a.eval x = .slice (some ⟨w.heap.size, 0, none⟩) m c) (hB : Below w.heap.size w W) (hF : Fz w own t e sz f z) (f1 : ∀ j, (f j).oneCell' = true) (hW : W.heap[w.heap.size]? = some (.cells (fcells f (z.n * sz) (m * sz)).toArray e (0, 0))) (hb : (z.n + m) * bytes ≤ 140737488355328)
  (h : ∀ v1 w1, v1.n = z.n + m → Fz w1 (tagged w own t) t e sz f v1 → (∀ z', Fz w own t e sz f z' → Fz w1 (tagged w own t) t e sz f z') → Kp (fun q => q = t) w own w1 (tagged w own t) → wpList P ops Q rest (a.put o.dst (Sl.enc v1)) w1) :
  wpList P ops Q (o :: rest) a W := by
 obtain ⟨i, hi, hzz⟩ := Option.map_eq_some_iff.1 hinfo
 simp only [Prod.mk.injEq] at hzz
 obtain ⟨hz0, hz1, hz2⟩ := hzz
 obtain ⟨v1, w1, hr, h1, h2, h3, h4⟩ := Fz.append (P := P) (ty := o.type) ht hi hz0 hz1 hz2 hzs h0 hB hF f1 m c hm hW hb hb0
 refine Kd.event_run hgd ?_ (h v1 w1 h1 h2 h3 h4)
 unfold execOp
 simp only [ho, resolve, invoke, builtin, Sem.run_bind, Sem.run_pure, Result.andThen_ok, List.map_toArray, List.map_cons, List.map_nil, hs, hx, hr]
structure WInvG (w : World) (g : Nat) (own : Nat → Nat) (s : St) (h : Gh) : Prop where
 blk : Blk w g s.cells 61
 og : own g = 2
 l : PL w own s.l h.L
 f0 : Ow slK 22 w own 3 s.f0 (h.F.map (·.1))
 t0 : Ow slK 27 w own 6 s.t0 (h.T.map (·.1))
 a0 : Ow slK 41 w own 9 s.a0 (h.A.map (·.1))
 b : PR u8K 22 12 w own s.b h.B
 m : PR mcK 27 13 w own s.m h.M
 r : PR rcK 41 14 w own s.r h.R
 k0 : Ow i64K 3 w own 15 s.k0 h.K0
 k1 : Ow i64K 3 w own 16 s.k1 h.K1
 k2 : Ow i64K 3 w own 17 s.k2 h.K2
 e : PO u8K 5 22 18 19 w own s.e h.E
theorem WInv.g {w : World} {g : Nat} {own : Nat → Nat} {s : St} {h : Gh} (H : WInv w g own s h) : WInvG w g own s h := ⟨H.blk, H.og, H.l, H.f0.1, H.t0.1, H.a0.1, H.b, H.m, H.r, H.k0, H.k1, H.k2, H.e⟩
theorem WInvG.keep {w w' : World} {g : Nat} {own own' : Nat → Nat} {s : St} {h : Gh} {ts : Nat → Prop} (H : WInvG w g own s h) (hk : Kp ts w own w' own') (hts : ∀ q, ts q → q % 32 = 4 ∨ q % 32 = 7 ∨ q % 32 = 10 ∨ q % 32 = 1 ∨ 23 ≤ q % 32) : WInvG w' g own' s h := by
 have hk2 := hk.mono (ts' := fun q => q % 32 = 4 ∨ q % 32 = 7 ∨ q % 32 = 10 ∨ q % 32 = 1 ∨ 23 ≤ q % 32) hts
 constructor <;> (first | assumption | (have q := (Blk.keep (WInvG.blk H) hk2 (by rw [WInvG.og H]; (intro hq; first | omega | (dsimp only at hq; omega) | (dsimp only at hq; done)))).1; exact q) | (have q := (Blk.keep (WInvG.blk H) hk2 (by rw [WInvG.og H]; (intro hq; first | omega | (dsimp only at hq; omega) | (dsimp only at hq; done)))).2.trans (WInvG.og H); exact q) | (have q := PL.keep (WInvG.l H) hk2 (by (intro hq; first | omega | (dsimp only at hq; omega) | (dsimp only at hq; done))) (fun i => by (intro hq; first | omega | (dsimp only at hq; omega) | (dsimp only at hq; done))) (fun i => by (intro hq; first | omega | (dsimp only at hq; omega) | (dsimp only at hq; done))); exact q) | (have q := Ow.keep (WInvG.f0 H) hk2 (by (intro hq; first | omega | (dsimp only at hq; omega) | (dsimp only at hq; done))); exact q) | (have q := Ow.keep (WInvG.t0 H) hk2 (by (intro hq; first | omega | (dsimp only at hq; omega) | (dsimp only at hq; done))); exact q) | (have q := Ow.keep (WInvG.a0 H) hk2 (by (intro hq; first | omega | (dsimp only at hq; omega) | (dsimp only at hq; done))); exact q) | (have q := PR.keep u8K_K (by decide) (WInvG.b H) hk2 (by (intro hq; first | omega | (dsimp only at hq; omega) | (dsimp only at hq; done))) (by (intro hq; first | omega | (dsimp only at hq; omega) | (dsimp only at hq; done))); exact q) | (have q := PR.keep mcK_K (by decide) (WInvG.m H) hk2 (by (intro hq; first | omega | (dsimp only at hq; omega) | (dsimp only at hq; done))) (by (intro hq; first | omega | (dsimp only at hq; omega) | (dsimp only at hq; done))); exact q) | (have q := PR.keep rcK_K (by decide) (WInvG.r H) hk2 (by (intro hq; first | omega | (dsimp only at hq; omega) | (dsimp only at hq; done))) (by (intro hq; first | omega | (dsimp only at hq; omega) | (dsimp only at hq; done))); exact q) | (have q := Ow.keep (WInvG.k0 H) hk2 (by (intro hq; first | omega | (dsimp only at hq; omega) | (dsimp only at hq; done))); exact q) | (have q := Ow.keep (WInvG.k1 H) hk2 (by (intro hq; first | omega | (dsimp only at hq; omega) | (dsimp only at hq; done))); exact q) | (have q := Ow.keep (WInvG.k2 H) hk2 (by (intro hq; first | omega | (dsimp only at hq; omega) | (dsimp only at hq; done))); exact q) | (have q := PO.keep (WInvG.e H) hk2 (by (intro hq; first | omega | (dsimp only at hq; omega) | (dsimp only at hq; done))) (fun i => by (intro hq; first | omega | (dsimp only at hq; omega) | (dsimp only at hq; done))); exact q))
theorem Fz.rd {α : Type} {d : Kd α} {w : World} {own : Nat → Nat} {t e : Nat} {f : Nat → Value} {z : Sl} {xs : List α} (h : Fz w own t e d.sz f z) (hl : xs.length = z.n) (hx : ∀ i x, xs[i]? = some x → d.K w x (fcells f (i * d.sz) d.sz)) : Rd d w own t z xs := by
 rcases h with rfl | ⟨k, cs, h1, h2, h3, h4, h5, h6, h7⟩
 · refine ⟨⟨hl, by simp [nilS], fun hn => by simp [nilS] at hn⟩, Nat.le_refl _, fun a ha hn => by simp [nilS] at hn⟩
 ·
  obtain ⟨A, n, c⟩ := z
  have h1' : A = some ⟨k, 0, none⟩ := h1
  subst h1'
  refine ⟨⟨hl, ?_, fun hn => ⟨⟨k, 0, none⟩, rfl, fun j p hj => ⟨fcells f (j * d.sz) d.sz, fcells_len _ _ _, hx j p hj, fun i u hu => ?_⟩⟩⟩, h4, fun a ha hn => by injection ha with ha; subst ha; exact h2⟩
  ·
   have h4' : n ≤ c := h4
   have h5' : c ≤ maxLen := h5
   simp only [maxLen] at h5'
   show n ≤ _
   omega
  ·
   obtain ⟨b1, b2⟩ := fcells_get hu
   rw [add_plain]
   have hl' : xs.length = n := hl
   have hjn : j < n := by have := (List.getElem?_eq_some_iff.1 hj).1; omega
   have : j * d.sz + i < n * d.sz := by
    have : (j + 1) * d.sz ≤ n * d.sz := Nat.mul_le_mul_right _ hjn
    rw [Nat.add_mul, Nat.one_mul] at this
    omega
   simp [World.cell?, h3, h7 _ this, b2]
end Go.Proofs.Ytpflenaoplblkaa.PaV
end
section
namespace Go.Proofs.Ytpflenaoplblkaa.PaWa
open Go.RowKit YtpflenaoplblkaaW.PrintWords YtpflenaoplblkaaW.PrintLast ProA ProB ProC ProI ProD ProG ProJ ProK ProL ProM ProN ProO ProP ProQ ProR ProU ProZ ProBb PaA
open ProH (msgTab repTab ba)
open ProS PaI PaJ PaK PaL
open PaM PaN PaO PaP PaQ PaR PaS PaT PaU PaV
set_option linter.unusedVariables false
set_option linter.unusedSimpArgs false
structure GSt (w0 : World) (o0 : Nat → Nat) (t e sz : Nat) (f : Nat → Value) (W : World) (O : Nat → Nat) (zs : List Sl) : Prop where
 kp : Kp (fun q => q = t) w0 o0 W O
 all : ∀ z ∈ zs, Fz W O t e sz f z
theorem GSt.below {w0 W W' : World} {o0 O : Nat → Nat} {t e sz : Nat} {f : Nat → Value} {zs : List Sl} (h : GSt w0 o0 t e sz f W O zs) (u : Nat) (hb : Below W.heap.size W W') : GSt w0 o0 t e sz f W' (tagged W O u) zs :=
  ⟨h.kp.trans (Kp.below hb u), fun z hz => Fz.keep (ts := fun _ => False) (h.all z hz) (Kp.below hb u) (fun hq => hq)⟩
theorem GSt.push {w0 W w1 : World} {o0 O : Nat → Nat} {t e sz : Nat} {f : Nat → Value} {zs : List Sl} {v1 : Sl} (h : GSt w0 o0 t e sz f W O zs) (h1 : Fz w1 (tagged W O t) t e sz f v1) (h2 : ∀ z', Fz W O t e sz f z' → Fz w1 (tagged W O t) t e sz f z') (h3 : Kp (fun q => q = t) W O w1 (tagged W O t)) : GSt w0 o0 t e sz f w1 (tagged W O t) (v1 :: zs) :=
 ⟨h.kp.trans h3, fun z hz => by
  rcases List.mem_cons.1 hz with rfl | hz
  · exact h1
  · exact h2 z (h.all z hz)⟩
def fD (m : Int) : Nat → Value := fun j => .int .u8 (dig m (j : Int))
theorem fD_one (m : Int) (n : Nat) : fcells (fD m) (n * 1) (1 * 1) = [.int .u8 (dig m (n : Int))] := by simp [fcells, fD]
theorem fD_two (m : Int) (n : Nat) : fcells (fD m) (n * 1) (2 * 1) = [.int .u8 (dig m (n : Int)), .int .u8 (dig m ((n : Int) + 1))] := by simp [fcells, fD, List.range_succ]
def fM (m : Int) : Nat → Value := fun j => match j % 5 with | 0 => .int .i64 m | 1 => .int .i64 0 | 2 => .string ⟨#[]⟩ | 3 => .int .i64 m | _ => .slice none 0 0
def fR (m : Int) : Nat → Value := fun j => match j % 4 with | 0 => .int .i64 m | 1 => .int .i64 m | 2 => .int .i64 0 | _ => .slice none 0 0
theorem fM_oneC (m : Int) (j : Nat) : (fM m j).oneCell' = true := by unfold fM; split <;> rfl
theorem fR_oneC (m : Int) (j : Nat) : (fR m j).oneCell' = true := by unfold fR; split <;> rfl
theorem fM_at (m : Int) (n i : Nat) : fM m (n * 5 + i) = fM m i := by unfold fM; rw [Nat.mul_add_mod_self_right]
theorem fR_at (m : Int) (n i : Nat) : fR m (n * 4 + i) = fR m i := by unfold fR; rw [Nat.mul_add_mod_self_right]
theorem fM_cells (m : Int) (n k : Nat) : fcells (fM m) (n * 5) k = fcells (fM m) 0 k := by
  unfold fcells; apply List.map_congr_left; intro j _; rw [fM_at, Nat.zero_add]
theorem fR_cells (m : Int) (n k : Nat) : fcells (fR m) (n * 4) k = fcells (fR m) 0 k := by
  unfold fcells; apply List.map_congr_left; intro j _; rw [fR_at, Nat.zero_add]
theorem fM_1 (m : Int) (n : Nat) : fcells (fM m) (n * 5) (1 * 5) = [.int .i64 m, .int .i64 0, .string ⟨#[]⟩, .int .i64 m, .slice none 0 0] := by rw [fM_cells]; rfl
theorem fM_2 (m : Int) (n : Nat) : fcells (fM m) (n * 5) (2 * 5) = [.int .i64 m, .int .i64 0, .string ⟨#[]⟩, .int .i64 m, .slice none 0 0, .int .i64 m, .int .i64 0, .string ⟨#[]⟩, .int .i64 m, .slice none 0 0] := by rw [fM_cells]; rfl
theorem fM_3 (m : Int) (n : Nat) : fcells (fM m) (n * 5) (3 * 5) = [.int .i64 m, .int .i64 0, .string ⟨#[]⟩, .int .i64 m, .slice none 0 0, .int .i64 m, .int .i64 0, .string ⟨#[]⟩, .int .i64 m, .slice none 0 0, .int .i64 m, .int .i64 0, .string ⟨#[]⟩, .int .i64 m, .slice none 0 0] := by rw [fM_cells]; rfl
theorem fR_1 (m : Int) (n : Nat) : fcells (fR m) (n * 4) (1 * 4) = [.int .i64 m, .int .i64 m, .int .i64 0, .slice none 0 0] := by rw [fR_cells]; rfl
theorem fR_2 (m : Int) (n : Nat) : fcells (fR m) (n * 4) (2 * 4) = [.int .i64 m, .int .i64 m, .int .i64 0, .slice none 0 0, .int .i64 m, .int .i64 m, .int .i64 0, .slice none 0 0] := by rw [fR_cells]; rfl
theorem fR_3 (m : Int) (n : Nat) : fcells (fR m) (n * 4) (3 * 4) = [.int .i64 m, .int .i64 m, .int .i64 0, .slice none 0 0, .int .i64 m, .int .i64 m, .int .i64 0, .slice none 0 0, .int .i64 m, .int .i64 m, .int .i64 0, .slice none 0 0] := by rw [fR_cells]; rfl
def digs (m : Int) (n : Nat) : List Int := (List.range n).map (fun j : Nat => dig m (j : Int))
theorem digs_len (m : Int) (n : Nat) : (digs m n).length = n := by simp [digs]
theorem digs_at {m : Int} {n t : Nat} {x : Int} (h : (digs m n)[t]? = some x) : x = dig m t := by
 unfold digs at h
 rw [List.getElem?_map] at h
 cases hr : (List.range n)[t]? with
 | none => rw [hr] at h; simp at h
 | some y =>
  rw [hr] at h
  obtain ⟨h1, h2⟩ := List.getElem?_eq_some_iff.1 hr
  simp at h2 h
  subst h2
  exact h.symm
theorem Rd.ret {α : Type} {d : Kd α} {w : World} {own : Nat → Nat} {t : Nat} {s : Sl} {xs : List α} (h : Rd d w own t s xs) (t' : Nat) : Rd d w (ret own t t') t' s xs := ⟨h.1, h.2.1, fun a ha hn => if_pos (h.2.2 a ha hn)⟩
theorem fD_rd {w : World} {own : Nat → Nat} {t : Nat} {m : Int} {z : Sl} (h : Fz w own t 5 1 (fD m) z) : Rd u8K w own t z (digs m z.n) :=
 Fz.rd (d := u8K) h (by simp [digs]) (fun i x hx => by
  have := digs_at hx
  subst this
  show fcells (fD m) (i * 1) 1 = [_]
  simp [fcells, fD])
theorem rep_at {α : Type} {n i : Nat} {x y : α} (h : (List.replicate n x)[i]? = some y) : y = x := by
 rw [List.getElem?_replicate] at h
 split at h
 · exact (Option.some.inj h).symm
 · simp at h
theorem fM_rd {w : World} {own : Nat → Nat} {t : Nat} {m : Int} {z : Sl} (h : Fz w own t 35 5 (fM m) z) : Rd mcK w own t z (List.replicate z.n (mkM m)) :=
 Fz.rd (d := mcK) h (by simp) (fun i x hx => by
  have := rep_at hx
  subst this
  show fcells (fM m) (i * 5) (1 * 5) = _
  rw [fM_1]
  rfl)
theorem fR_rd {w : World} {own : Nat → Nat} {t : Nat} {m : Int} {z : Sl} (h : Fz w own t 44 4 (fR m) z) : Rd rcK w own t z (List.replicate z.n (mkR m)) :=
 Fz.rd (d := rcK) h (by simp) (fun i x hx => by
  have := rep_at hx
  subst this
  show fcells (fR m) (i * 4) (1 * 4) = _
  rw [fR_1]
  rfl)
theorem info3 : (Try.prog.info? 3).map (fun i => (i.zero, i.size, i.bytes)) = some (some (.int .i64 0), 1, 8) := by kernel_rfl
theorem lit_rows {α : Type} {enc : α → Value} {h1 : ∀ x, (enc x).oneCell' = true} {W : World} {n e : Nat} {xs : List α} (h : W.heap[n]? = some (.cells (xs.map enc).toArray e (0, 0))) (hl : xs.length ≤ 1000) : ReadsRow ((Kd.scalar enc h1).K W) 1 W (some ⟨n, 0, none⟩) xs.length xs := by
 refine ⟨rfl, by omega, fun _ => ⟨_, rfl, fun j p hj => ⟨[enc p], rfl, rfl, fun i u hu => ?_⟩⟩⟩
 rw [add_plain]
 have hi : i = 0 := by
  have := (List.getElem?_eq_some_iff.1 hu).1
  simp at this
  exact this
 subst hi
 simp at hu
 subst hu
 simp [World.cell?, h, hj]
def Pr2 {α : Type} (P : Sl × List α → Int → Prop) (B : List (Sl × List α)) (K : List Int) : Prop := B.length = K.length ∧ ∀ (i : Nat) (p : Sl × List α) (k : Int), B[i]? = some p → K[i]? = some k → P p k
theorem Pr2.app {α : Type} {P : Sl × List α → Int → Prop} {B zs : List (Sl × List α)} {K ks : List Int} (h : Pr2 P B K) (hz : Pr2 P zs ks) : Pr2 P (B ++ zs) (K ++ ks) := by
 refine ⟨by rw [List.length_append, List.length_append, h.1, hz.1], fun i p k hp hk => ?_⟩
 by_cases hi : i < B.length
 ·
  rw [List.getElem?_append_left hi] at hp
  rw [List.getElem?_append_left (by rw [← h.1]; exact hi)] at hk
  exact h.2 i p k hp hk
 ·
  rw [List.getElem?_append_right (by omega)] at hp
  rw [List.getElem?_append_right (by rw [← h.1]; omega), ← h.1] at hk
  exact hz.2 _ p k hp hk
theorem Pr2.four {α : Type} {P : Sl × List α → Int → Prop} {a b c d : Sl × List α} {k : Int} (h1 : P a k) (h2 : P b k) (h3 : P c k) (h4 : P d k) : Pr2 P [a, b, c, d] [k, k, k, k] := by
 refine ⟨rfl, fun i p q hp hq => ?_⟩
 have hi : i < 4 := by have := (List.getElem?_eq_some_iff.1 hp).1; simpa using this
 rcases i with _ | _ | _ | _ | i
 · simp at hp hq; subst hp hq; exact h1
 · simp at hp hq; subst hp hq; exact h2
 · simp at hp hq; subst hp hq; exact h3
 · simp at hp hq; subst hp hq; exact h4
 · omega
def PB (p : Sl × List Int) (k : Int) : Prop := (∀ (t : Nat) (x : Int), p.2[t]? = some x → x = dig k t) ∧ p.2.length ≤ 2000000000000
def PM (p : Sl × List MC) (k : Int) : Prop := (∀ x ∈ p.2, x = mkM k) ∧ p.2.length ≤ 2000000000000
def PQ (p : Sl × List RC) (k : Int) : Prop := (∀ x ∈ p.2, x = mkR k) ∧ p.2.length ≤ 2000000000000
theorem PB_digs (z : Sl) (m : Int) (h : z.n ≤ 2000000000000) : PB (z, digs m z.n) m := ⟨fun t x hx => digs_at (n := z.n) hx, by rw [digs_len]; exact h⟩
theorem PM_rep (z : Sl) (m : Int) (h : z.n ≤ 2000000000000) : PM (z, List.replicate z.n (mkM m)) m := ⟨fun x hx => List.eq_of_mem_replicate hx, by rw [List.length_replicate]; exact h⟩
theorem PQ_rep (z : Sl) (m : Int) (h : z.n ≤ 2000000000000) : PQ (z, List.replicate z.n (mkR m)) m := ⟨fun x hx => List.eq_of_mem_replicate hx, by rw [List.length_replicate]; exact h⟩
theorem PR.grown {α : Type} {d : Kd α} (hd : ∀ {w w1 : World} {x : α} {cs : List Value}, d.K w x cs → d.K w1 x cs) (hsz : 0 < d.sz) {er tr t : Nat} {w0 w1 w2 : World} {o0 o1 o2 : Nat → Nat} {v : Sl} {C zs : List (Sl × List α)} {ts : Nat → Prop}
  (h : ∀ p ∈ C, Rd d w0 o0 0 p.1 p.2) (hz : ∀ p ∈ zs, Rd d w1 o1 t p.1 p.2) (hr : Ow slK er w2 o2 tr v (C.map (·.1) ++ zs.map (·.1))) (k01 : Kp (fun q => q = t) w0 o0 w1 o1) (k12 : Kp ts w1 o1 w2 o2) (h0 : t ≠ 0) (h1 : tr ≠ t) (h2 : ¬ ts 0) (h3 : ¬ ts t) : PR d er tr w2 (ret o2 t 0) v (C ++ zs) := by
 have kr := Kp.ret w2 o2 t 0
 refine ⟨by rw [List.map_append]; exact Ow.keep hr kr (by intro hq; exact h1 hq), fun p hp => ?_⟩
 rcases List.mem_append.1 hp with hp | hp
 · exact (((h p hp).keep hd hsz k01 (fun e => h0 e.symm)).keep hd hsz k12 h2).keep hd hsz kr (fun e => h0 e.symm)
 · exact Rd.ret ((hz p hp).keep hd hsz k12 h3) 0
def big (q : Nat) : Prop := q % 32 ≠ 27
def RelB (w0 : World) (own : Nat → Nat) (gf g : Nat) (s : St) (h : Gh) (a0 a1 a2 : Int) (j : Nat) (w : World) (o : Nat → Nat) (sb sk : Sl) (B : List (Sl × List Int)) (Ks : List Int) : Prop :=
  Hid (B.length = h.B.length + 4 * j ∧ Ks.length = h.K0.length + 4 * j ∧ Pr2 PB B Ks) ∧ Hid (Blk w gf #[.int .i64 a0, .int .i64 a1, .int .i64 a2] 83 ∧ o gf = 24 ∧ Kp big w0 own w o) ∧ Hid (WInvG w g o { s with b := sb, k0 := sk } { h with B := B, K0 := Ks } ∧ (∀ (i : Nat) (p : Sl × List Int), j ≤ i → h.F[i]? = some p → Fz w o (32 * i + 4) 5 1 (fD (a0 + 4 * (i : Int))) p.1) ∧ (∀ (i : Nat) (p : Sl × List MC), h.T[i]? = some p → Fz w o (32 * i + 7) 35 5 (fM (a1 - 4 * (i : Int))) p.1) ∧ (∀ (i : Nat) (p : Sl × List RC), h.A[i]? = some p → Fz w o (32 * i + 10) 44 4 (fR (a2 - 4 * (i : Int))) p.1))
theorem growB_end {w0 wr0 wr W7 W9 : World} {own o O o7 o9 : Nat → Nat} {gf g j : Nat} {a0 a1 a2 : Int} {s : St} {h : Gh} {sb sk s7 s9 : Sl} {B : List (Sl × List Int)} {Ks : List Int} {z1 z2 z3 z4 : Sl}
  (HR : RelB w0 own gf g s h a0 a1 a2 j wr0 o sb sk B Ks)
  (HST : ∀ z ∈ [z1, z2, z3, z4], Fz wr O (32 * j + 4) 5 1 (fD (a0 + 4 * (j : Int))) z) (hn : ∀ z ∈ [z1, z2, z3, z4], z.n ≤ 2000000000000)
  (HK : Kp (fun q => q = 32 * j + 4) wr0 o wr O)
  (HK7 : Kp (fun q => q = 12 ∨ q = 2) wr O W7 o7) (HO7 : Ow slK 22 W7 o7 12 s7 (B.map (·.1) ++ [z1, z2, z3, z4]))
  (HK9 : Kp (fun q => q = 15 ∨ q = 2) W7 o7 W9 o9) (HO9 : Ow i64K 3 W9 o9 15 s9 (Ks ++ [a0 + 4 * (j : Int), a0 + 4 * (j : Int), a0 + 4 * (j : Int), a0 + 4 * (j : Int)])) (HB9 : Blk W9 g ({ s with b := s7, k0 := s9 } : St).cells 61) (HG9 : o9 g = 2) :
  RelB w0 own gf g s h a0 a1 a2 (j + 1) W9 (ret o9 (32 * j + 4) 0) s7 s9 (B ++ [(z1, digs (a0 + 4 * (j : Int)) z1.n), (z2, digs (a0 + 4 * (j : Int)) z2.n), (z3, digs (a0 + 4 * (j : Int)) z3.n), (z4, digs (a0 + 4 * (j : Int)) z4.n)]) (Ks ++ [a0 + 4 * (j : Int), a0 + 4 * (j : Int), a0 + 4 * (j : Int), a0 + 4 * (j : Int)]) := by
 obtain ⟨hL, hX, hW⟩ := HR
 replace hL := hL.out
 replace hX := hX.out
 replace hW := hW.out
 have hk79 : Kp (fun q => q = 12 ∨ q = 15 ∨ q = 2) wr O W9 o9 := (HK7.mono (fun q hq => by omega)).trans (HK9.mono (fun q hq => by omega))
 have hr : Kp (fun q => q = 32 * j + 4) W9 o9 W9 (ret o9 (32 * j + 4) 0) := Kp.ret _ _ _ _
 have hall : Kp (fun q => q = 32 * j + 4 ∨ q = 12 ∨ q = 15 ∨ q = 2) wr0 o W9 (ret o9 (32 * j + 4) 0) := ((HK.mono (fun q hq => by omega)).trans (hk79.mono (fun q hq => by omega))).trans (hr.mono (fun q hq => by omega))
 refine ⟨Lib.hid ⟨?_, ?_, ?_⟩, Lib.hid ⟨?_, ?_, ?_⟩, Lib.hid ⟨?_, ?_, ?_, ?_⟩⟩
 · rw [List.length_append, hL.1]; simp; omega
 · rw [List.length_append, hL.2.1]; simp; omega
 · exact hL.2.2.app (Pr2.four (PB_digs _ _ (hn _ (by simp))) (PB_digs _ _ (hn _ (by simp))) (PB_digs _ _ (hn _ (by simp))) (PB_digs _ _ (hn _ (by simp))))
 · exact (Blk.keep hX.1 hall (by rw [hX.2.1]; omega)).1
 · exact (Blk.keep hX.1 hall (by rw [hX.2.1]; omega)).2.trans hX.2.1
 · exact hX.2.2.trans (hall.mono (fun q hq => by unfold big; omega))
 ·
  have hW1 := hW.1
  have hb := HB9
  have hg := (Blk.keep HB9 hr (by rw [HG9]; (intro hq; first | omega | (dsimp only at hq; omega) | (dsimp only at hq; done)))).2.trans HG9
  have hk0 : Ow i64K 3 W9 (ret o9 (32 * j + 4) 0) 15 s9 (Ks ++ [a0 + 4 * (j : Int), a0 + 4 * (j : Int), a0 + 4 * (j : Int), a0 + 4 * (j : Int)]) := Ow.keep HO9 hr (by (intro hq; first | omega | (dsimp only at hq; omega) | (dsimp only at hq; done)))
  have hpr : PR u8K 22 12 W9 (ret o9 (32 * j + 4) 0) s7 (B ++ [(z1, digs (a0 + 4 * (j : Int)) z1.n), (z2, digs (a0 + 4 * (j : Int)) z2.n), (z3, digs (a0 + 4 * (j : Int)) z3.n), (z4, digs (a0 + 4 * (j : Int)) z4.n)]) := by
   refine PR.grown u8K_K (by decide) hW1.b.2 (fun p hp => ?_) (Ow.keep HO7 HK9 (by (intro hq; first | omega | (dsimp only at hq; omega) | (dsimp only at hq; done)))) HK hk79 (by omega) (by omega) (by (intro hq; first | omega | (dsimp only at hq; omega) | (dsimp only at hq; done))) (by (intro hq; first | omega | (dsimp only at hq; omega) | (dsimp only at hq; done)))
   have hz : ∀ z ∈ [z1, z2, z3, z4], Rd u8K wr O (32 * j + 4) z (digs (a0 + 4 * (j : Int)) z.n) := fun z hz => fD_rd (HST z hz)
   simp only [List.mem_cons, List.not_mem_nil, or_false] at hp
   rcases hp with rfl | rfl | rfl | rfl
   · exact hz z1 (by simp)
   · exact hz z2 (by simp)
   · exact hz z3 (by simp)
   · exact hz z4 (by simp)
  constructor <;> (first | assumption | (have q := (Blk.keep (WInvG.blk hW1) hall (by rw [WInvG.og hW1]; (intro hq; first | omega | (dsimp only at hq; omega) | (dsimp only at hq; done)))).1; exact q) | (have q := (Blk.keep (WInvG.blk hW1) hall (by rw [WInvG.og hW1]; (intro hq; first | omega | (dsimp only at hq; omega) | (dsimp only at hq; done)))).2.trans (WInvG.og hW1); exact q) | (have q := PL.keep (WInvG.l hW1) hall (by (intro hq; first | omega | (dsimp only at hq; omega) | (dsimp only at hq; done))) (fun i => by (intro hq; first | omega | (dsimp only at hq; omega) | (dsimp only at hq; done))) (fun i => by (intro hq; first | omega | (dsimp only at hq; omega) | (dsimp only at hq; done))); exact q) | (have q := Ow.keep (WInvG.f0 hW1) hall (by (intro hq; first | omega | (dsimp only at hq; omega) | (dsimp only at hq; done))); exact q) | (have q := Ow.keep (WInvG.t0 hW1) hall (by (intro hq; first | omega | (dsimp only at hq; omega) | (dsimp only at hq; done))); exact q) | (have q := Ow.keep (WInvG.a0 hW1) hall (by (intro hq; first | omega | (dsimp only at hq; omega) | (dsimp only at hq; done))); exact q) | (have q := PR.keep u8K_K (by decide) (WInvG.b hW1) hall (by (intro hq; first | omega | (dsimp only at hq; omega) | (dsimp only at hq; done))) (by (intro hq; first | omega | (dsimp only at hq; omega) | (dsimp only at hq; done))); exact q) | (have q := PR.keep mcK_K (by decide) (WInvG.m hW1) hall (by (intro hq; first | omega | (dsimp only at hq; omega) | (dsimp only at hq; done))) (by (intro hq; first | omega | (dsimp only at hq; omega) | (dsimp only at hq; done))); exact q) | (have q := PR.keep rcK_K (by decide) (WInvG.r hW1) hall (by (intro hq; first | omega | (dsimp only at hq; omega) | (dsimp only at hq; done))) (by (intro hq; first | omega | (dsimp only at hq; omega) | (dsimp only at hq; done))); exact q) | (have q := Ow.keep (WInvG.k0 hW1) hall (by (intro hq; first | omega | (dsimp only at hq; omega) | (dsimp only at hq; done))); exact q) | (have q := Ow.keep (WInvG.k1 hW1) hall (by (intro hq; first | omega | (dsimp only at hq; omega) | (dsimp only at hq; done))); exact q) | (have q := Ow.keep (WInvG.k2 hW1) hall (by (intro hq; first | omega | (dsimp only at hq; omega) | (dsimp only at hq; done))); exact q) | (have q := PO.keep (WInvG.e hW1) hall (by (intro hq; first | omega | (dsimp only at hq; omega) | (dsimp only at hq; done))) (fun i => by (intro hq; first | omega | (dsimp only at hq; omega) | (dsimp only at hq; done))); exact q))
 · exact fun i p hi hp => Fz.keep (hW.2.1 i p (by omega) hp) hall (by (intro hq; first | omega | (dsimp only at hq; omega) | (dsimp only at hq; done)))
 · exact fun i p hp => Fz.keep (hW.2.2.1 i p hp) hall (by (intro hq; first | omega | (dsimp only at hq; omega) | (dsimp only at hq; done)))
 · exact fun i p hp => Fz.keep (hW.2.2.2 i p hp) hall (by (intro hq; first | omega | (dsimp only at hq; omega) | (dsimp only at hq; done)))
def RelM (w0 : World) (own : Nat → Nat) (gf g : Nat) (s : St) (h : Gh) (a0 a1 a2 : Int) (j : Nat) (w : World) (o : Nat → Nat) (sb sk : Sl) (B : List (Sl × List MC)) (Ks : List Int) : Prop :=
  Hid (B.length = h.M.length + 4 * j ∧ Ks.length = h.K1.length + 4 * j ∧ Pr2 PM B Ks) ∧ Hid (Blk w gf #[.int .i64 a0, .int .i64 a1, .int .i64 a2] 83 ∧ o gf = 24 ∧ Kp big w0 own w o) ∧ Hid (WInvG w g o { s with m := sb, k1 := sk } { h with M := B, K1 := Ks } ∧ (∀ (i : Nat) (p : Sl × List MC), j ≤ i → h.T[i]? = some p → Fz w o (32 * i + 7) 35 5 (fM (a1 - 4 * (i : Int))) p.1) ∧ (∀ (i : Nat) (p : Sl × List RC), h.A[i]? = some p → Fz w o (32 * i + 10) 44 4 (fR (a2 - 4 * (i : Int))) p.1))
theorem growM_end {w0 wr0 wr W7 W9 : World} {own o O o7 o9 : Nat → Nat} {gf g j : Nat} {a0 a1 a2 : Int} {s : St} {h : Gh} {sb sk s7 s9 : Sl} {B : List (Sl × List MC)} {Ks : List Int} {z1 z2 z3 z4 : Sl}
  (HR : RelM w0 own gf g s h a0 a1 a2 j wr0 o sb sk B Ks)
  (HST : ∀ z ∈ [z1, z2, z3, z4], Fz wr O (32 * j + 7) 35 5 (fM (a1 - 4 * (j : Int))) z) (hn : ∀ z ∈ [z1, z2, z3, z4], z.n ≤ 2000000000000)
  (HK : Kp (fun q => q = 32 * j + 7) wr0 o wr O)
  (HK7 : Kp (fun q => q = 13 ∨ q = 2) wr O W7 o7) (HO7 : Ow slK 27 W7 o7 13 s7 (B.map (·.1) ++ [z1, z2, z3, z4]))
  (HK9 : Kp (fun q => q = 16 ∨ q = 2) W7 o7 W9 o9) (HO9 : Ow i64K 3 W9 o9 16 s9 (Ks ++ [a1 - 4 * (j : Int), a1 - 4 * (j : Int), a1 - 4 * (j : Int), a1 - 4 * (j : Int)])) (HB9 : Blk W9 g ({ s with m := s7, k1 := s9 } : St).cells 61) (HG9 : o9 g = 2) :
  RelM w0 own gf g s h a0 a1 a2 (j + 1) W9 (ret o9 (32 * j + 7) 0) s7 s9 (B ++ [(z1, List.replicate z1.n (mkM (a1 - 4 * (j : Int)))), (z2, List.replicate z2.n (mkM (a1 - 4 * (j : Int)))), (z3, List.replicate z3.n (mkM (a1 - 4 * (j : Int)))), (z4, List.replicate z4.n (mkM (a1 - 4 * (j : Int))))]) (Ks ++ [a1 - 4 * (j : Int), a1 - 4 * (j : Int), a1 - 4 * (j : Int), a1 - 4 * (j : Int)]) := by
 obtain ⟨hL, hX, hW⟩ := HR
 replace hL := hL.out
 replace hX := hX.out
 replace hW := hW.out
 have hk79 : Kp (fun q => q = 13 ∨ q = 16 ∨ q = 2) wr O W9 o9 := (HK7.mono (fun q hq => by omega)).trans (HK9.mono (fun q hq => by omega))
 have hr : Kp (fun q => q = 32 * j + 7) W9 o9 W9 (ret o9 (32 * j + 7) 0) := Kp.ret _ _ _ _
 have hall : Kp (fun q => q = 32 * j + 7 ∨ q = 13 ∨ q = 16 ∨ q = 2) wr0 o W9 (ret o9 (32 * j + 7) 0) := ((HK.mono (fun q hq => by omega)).trans (hk79.mono (fun q hq => by omega))).trans (hr.mono (fun q hq => by omega))
 refine ⟨Lib.hid ⟨?_, ?_, ?_⟩, Lib.hid ⟨?_, ?_, ?_⟩, Lib.hid ⟨?_, ?_, ?_⟩⟩
 · rw [List.length_append, hL.1]; simp; omega
 · rw [List.length_append, hL.2.1]; simp; omega
 · exact hL.2.2.app (Pr2.four (PM_rep _ _ (hn _ (by simp))) (PM_rep _ _ (hn _ (by simp))) (PM_rep _ _ (hn _ (by simp))) (PM_rep _ _ (hn _ (by simp))))
 · exact (Blk.keep hX.1 hall (by rw [hX.2.1]; omega)).1
 · exact (Blk.keep hX.1 hall (by rw [hX.2.1]; omega)).2.trans hX.2.1
 · exact hX.2.2.trans (hall.mono (fun q hq => by unfold big; omega))
 ·
  have hW1 := hW.1
  have hb := HB9
  have hg := (Blk.keep HB9 hr (by rw [HG9]; (intro hq; first | omega | (dsimp only at hq; omega) | (dsimp only at hq; done)))).2.trans HG9
  have hk0 : Ow i64K 3 W9 (ret o9 (32 * j + 7) 0) 16 s9 (Ks ++ [a1 - 4 * (j : Int), a1 - 4 * (j : Int), a1 - 4 * (j : Int), a1 - 4 * (j : Int)]) := Ow.keep HO9 hr (by (intro hq; first | omega | (dsimp only at hq; omega) | (dsimp only at hq; done)))
  have hpr : PR mcK 27 13 W9 (ret o9 (32 * j + 7) 0) s7 (B ++ [(z1, List.replicate z1.n (mkM (a1 - 4 * (j : Int)))), (z2, List.replicate z2.n (mkM (a1 - 4 * (j : Int)))), (z3, List.replicate z3.n (mkM (a1 - 4 * (j : Int)))), (z4, List.replicate z4.n (mkM (a1 - 4 * (j : Int))))]) := by
   refine PR.grown mcK_K (by decide) hW1.m.2 (fun p hp => ?_) (Ow.keep HO7 HK9 (by (intro hq; first | omega | (dsimp only at hq; omega) | (dsimp only at hq; done)))) HK hk79 (by omega) (by omega) (by (intro hq; first | omega | (dsimp only at hq; omega) | (dsimp only at hq; done))) (by (intro hq; first | omega | (dsimp only at hq; omega) | (dsimp only at hq; done)))
   have hz : ∀ z ∈ [z1, z2, z3, z4], Rd mcK wr O (32 * j + 7) z (List.replicate z.n (mkM (a1 - 4 * (j : Int)))) := fun z hz => fM_rd (HST z hz)
   simp only [List.mem_cons, List.not_mem_nil, or_false] at hp
   rcases hp with rfl | rfl | rfl | rfl
   · exact hz z1 (by simp)
   · exact hz z2 (by simp)
   · exact hz z3 (by simp)
   · exact hz z4 (by simp)
  constructor <;> (first | assumption | (have q := (Blk.keep (WInvG.blk hW1) hall (by rw [WInvG.og hW1]; (intro hq; first | omega | (dsimp only at hq; omega) | (dsimp only at hq; done)))).1; exact q) | (have q := (Blk.keep (WInvG.blk hW1) hall (by rw [WInvG.og hW1]; (intro hq; first | omega | (dsimp only at hq; omega) | (dsimp only at hq; done)))).2.trans (WInvG.og hW1); exact q) | (have q := PL.keep (WInvG.l hW1) hall (by (intro hq; first | omega | (dsimp only at hq; omega) | (dsimp only at hq; done))) (fun i => by (intro hq; first | omega | (dsimp only at hq; omega) | (dsimp only at hq; done))) (fun i => by (intro hq; first | omega | (dsimp only at hq; omega) | (dsimp only at hq; done))); exact q) | (have q := Ow.keep (WInvG.f0 hW1) hall (by (intro hq; first | omega | (dsimp only at hq; omega) | (dsimp only at hq; done))); exact q) | (have q := Ow.keep (WInvG.t0 hW1) hall (by (intro hq; first | omega | (dsimp only at hq; omega) | (dsimp only at hq; done))); exact q) | (have q := Ow.keep (WInvG.a0 hW1) hall (by (intro hq; first | omega | (dsimp only at hq; omega) | (dsimp only at hq; done))); exact q) | (have q := PR.keep u8K_K (by decide) (WInvG.b hW1) hall (by (intro hq; first | omega | (dsimp only at hq; omega) | (dsimp only at hq; done))) (by (intro hq; first | omega | (dsimp only at hq; omega) | (dsimp only at hq; done))); exact q) | (have q := PR.keep mcK_K (by decide) (WInvG.m hW1) hall (by (intro hq; first | omega | (dsimp only at hq; omega) | (dsimp only at hq; done))) (by (intro hq; first | omega | (dsimp only at hq; omega) | (dsimp only at hq; done))); exact q) | (have q := PR.keep rcK_K (by decide) (WInvG.r hW1) hall (by (intro hq; first | omega | (dsimp only at hq; omega) | (dsimp only at hq; done))) (by (intro hq; first | omega | (dsimp only at hq; omega) | (dsimp only at hq; done))); exact q) | (have q := Ow.keep (WInvG.k0 hW1) hall (by (intro hq; first | omega | (dsimp only at hq; omega) | (dsimp only at hq; done))); exact q) | (have q := Ow.keep (WInvG.k1 hW1) hall (by (intro hq; first | omega | (dsimp only at hq; omega) | (dsimp only at hq; done))); exact q) | (have q := Ow.keep (WInvG.k2 hW1) hall (by (intro hq; first | omega | (dsimp only at hq; omega) | (dsimp only at hq; done))); exact q) | (have q := PO.keep (WInvG.e hW1) hall (by (intro hq; first | omega | (dsimp only at hq; omega) | (dsimp only at hq; done))) (fun i => by (intro hq; first | omega | (dsimp only at hq; omega) | (dsimp only at hq; done))); exact q))
 · exact fun i p hi hp => Fz.keep (hW.2.1 i p (by omega) hp) hall (by (intro hq; first | omega | (dsimp only at hq; omega) | (dsimp only at hq; done)))
 · exact fun i p hp => Fz.keep (hW.2.2 i p hp) hall (by (intro hq; first | omega | (dsimp only at hq; omega) | (dsimp only at hq; done)))
def RelR (w0 : World) (own : Nat → Nat) (gf g : Nat) (s : St) (h : Gh) (a0 a1 a2 : Int) (j : Nat) (w : World) (o : Nat → Nat) (sb sk : Sl) (B : List (Sl × List RC)) (Ks : List Int) : Prop :=
  Hid (B.length = h.R.length + 4 * j ∧ Ks.length = h.K2.length + 4 * j ∧ Pr2 PQ B Ks) ∧ Hid (Blk w gf #[.int .i64 a0, .int .i64 a1, .int .i64 a2] 83 ∧ o gf = 24 ∧ Kp big w0 own w o) ∧ Hid (WInvG w g o { s with r := sb, k2 := sk } { h with R := B, K2 := Ks } ∧ (∀ (i : Nat) (p : Sl × List RC), j ≤ i → h.A[i]? = some p → Fz w o (32 * i + 10) 44 4 (fR (a2 - 4 * (i : Int))) p.1))
theorem growR_end {w0 wr0 wr W7 W9 : World} {own o O o7 o9 : Nat → Nat} {gf g j : Nat} {a0 a1 a2 : Int} {s : St} {h : Gh} {sb sk s7 s9 : Sl} {B : List (Sl × List RC)} {Ks : List Int} {z1 z2 z3 z4 : Sl}
  (HR : RelR w0 own gf g s h a0 a1 a2 j wr0 o sb sk B Ks)
  (HST : ∀ z ∈ [z1, z2, z3, z4], Fz wr O (32 * j + 10) 44 4 (fR (a2 - 4 * (j : Int))) z) (hn : ∀ z ∈ [z1, z2, z3, z4], z.n ≤ 2000000000000)
  (HK : Kp (fun q => q = 32 * j + 10) wr0 o wr O)
  (HK7 : Kp (fun q => q = 14 ∨ q = 2) wr O W7 o7) (HO7 : Ow slK 41 W7 o7 14 s7 (B.map (·.1) ++ [z1, z2, z3, z4]))
  (HK9 : Kp (fun q => q = 17 ∨ q = 2) W7 o7 W9 o9) (HO9 : Ow i64K 3 W9 o9 17 s9 (Ks ++ [a2 - 4 * (j : Int), a2 - 4 * (j : Int), a2 - 4 * (j : Int), a2 - 4 * (j : Int)])) (HB9 : Blk W9 g ({ s with r := s7, k2 := s9 } : St).cells 61) (HG9 : o9 g = 2) :
  RelR w0 own gf g s h a0 a1 a2 (j + 1) W9 (ret o9 (32 * j + 10) 0) s7 s9 (B ++ [(z1, List.replicate z1.n (mkR (a2 - 4 * (j : Int)))), (z2, List.replicate z2.n (mkR (a2 - 4 * (j : Int)))), (z3, List.replicate z3.n (mkR (a2 - 4 * (j : Int)))), (z4, List.replicate z4.n (mkR (a2 - 4 * (j : Int))))]) (Ks ++ [a2 - 4 * (j : Int), a2 - 4 * (j : Int), a2 - 4 * (j : Int), a2 - 4 * (j : Int)]) := by
 obtain ⟨hL, hX, hW⟩ := HR
 replace hL := hL.out
 replace hX := hX.out
 replace hW := hW.out
 have hk79 : Kp (fun q => q = 14 ∨ q = 17 ∨ q = 2) wr O W9 o9 := (HK7.mono (fun q hq => by omega)).trans (HK9.mono (fun q hq => by omega))
 have hr : Kp (fun q => q = 32 * j + 10) W9 o9 W9 (ret o9 (32 * j + 10) 0) := Kp.ret _ _ _ _
 have hall : Kp (fun q => q = 32 * j + 10 ∨ q = 14 ∨ q = 17 ∨ q = 2) wr0 o W9 (ret o9 (32 * j + 10) 0) := ((HK.mono (fun q hq => by omega)).trans (hk79.mono (fun q hq => by omega))).trans (hr.mono (fun q hq => by omega))
 refine ⟨Lib.hid ⟨?_, ?_, ?_⟩, Lib.hid ⟨?_, ?_, ?_⟩, Lib.hid ⟨?_, ?_⟩⟩
 · rw [List.length_append, hL.1]; simp; omega
 · rw [List.length_append, hL.2.1]; simp; omega
 · exact hL.2.2.app (Pr2.four (PQ_rep _ _ (hn _ (by simp))) (PQ_rep _ _ (hn _ (by simp))) (PQ_rep _ _ (hn _ (by simp))) (PQ_rep _ _ (hn _ (by simp))))
 · exact (Blk.keep hX.1 hall (by rw [hX.2.1]; omega)).1
 · exact (Blk.keep hX.1 hall (by rw [hX.2.1]; omega)).2.trans hX.2.1
 · exact hX.2.2.trans (hall.mono (fun q hq => by unfold big; omega))
 ·
  have hW1 := hW.1
  have hb := HB9
  have hg := (Blk.keep HB9 hr (by rw [HG9]; (intro hq; first | omega | (dsimp only at hq; omega) | (dsimp only at hq; done)))).2.trans HG9
  have hk0 : Ow i64K 3 W9 (ret o9 (32 * j + 10) 0) 17 s9 (Ks ++ [a2 - 4 * (j : Int), a2 - 4 * (j : Int), a2 - 4 * (j : Int), a2 - 4 * (j : Int)]) := Ow.keep HO9 hr (by (intro hq; first | omega | (dsimp only at hq; omega) | (dsimp only at hq; done)))
  have hpr : PR rcK 41 14 W9 (ret o9 (32 * j + 10) 0) s7 (B ++ [(z1, List.replicate z1.n (mkR (a2 - 4 * (j : Int)))), (z2, List.replicate z2.n (mkR (a2 - 4 * (j : Int)))), (z3, List.replicate z3.n (mkR (a2 - 4 * (j : Int)))), (z4, List.replicate z4.n (mkR (a2 - 4 * (j : Int))))]) := by
   refine PR.grown rcK_K (by decide) hW1.r.2 (fun p hp => ?_) (Ow.keep HO7 HK9 (by (intro hq; first | omega | (dsimp only at hq; omega) | (dsimp only at hq; done)))) HK hk79 (by omega) (by omega) (by (intro hq; first | omega | (dsimp only at hq; omega) | (dsimp only at hq; done))) (by (intro hq; first | omega | (dsimp only at hq; omega) | (dsimp only at hq; done)))
   have hz : ∀ z ∈ [z1, z2, z3, z4], Rd rcK wr O (32 * j + 10) z (List.replicate z.n (mkR (a2 - 4 * (j : Int)))) := fun z hz => fR_rd (HST z hz)
   simp only [List.mem_cons, List.not_mem_nil, or_false] at hp
   rcases hp with rfl | rfl | rfl | rfl
   · exact hz z1 (by simp)
   · exact hz z2 (by simp)
   · exact hz z3 (by simp)
   · exact hz z4 (by simp)
  constructor <;> (first | assumption | (have q := (Blk.keep (WInvG.blk hW1) hall (by rw [WInvG.og hW1]; (intro hq; first | omega | (dsimp only at hq; omega) | (dsimp only at hq; done)))).1; exact q) | (have q := (Blk.keep (WInvG.blk hW1) hall (by rw [WInvG.og hW1]; (intro hq; first | omega | (dsimp only at hq; omega) | (dsimp only at hq; done)))).2.trans (WInvG.og hW1); exact q) | (have q := PL.keep (WInvG.l hW1) hall (by (intro hq; first | omega | (dsimp only at hq; omega) | (dsimp only at hq; done))) (fun i => by (intro hq; first | omega | (dsimp only at hq; omega) | (dsimp only at hq; done))) (fun i => by (intro hq; first | omega | (dsimp only at hq; omega) | (dsimp only at hq; done))); exact q) | (have q := Ow.keep (WInvG.f0 hW1) hall (by (intro hq; first | omega | (dsimp only at hq; omega) | (dsimp only at hq; done))); exact q) | (have q := Ow.keep (WInvG.t0 hW1) hall (by (intro hq; first | omega | (dsimp only at hq; omega) | (dsimp only at hq; done))); exact q) | (have q := Ow.keep (WInvG.a0 hW1) hall (by (intro hq; first | omega | (dsimp only at hq; omega) | (dsimp only at hq; done))); exact q) | (have q := PR.keep u8K_K (by decide) (WInvG.b hW1) hall (by (intro hq; first | omega | (dsimp only at hq; omega) | (dsimp only at hq; done))) (by (intro hq; first | omega | (dsimp only at hq; omega) | (dsimp only at hq; done))); exact q) | (have q := PR.keep mcK_K (by decide) (WInvG.m hW1) hall (by (intro hq; first | omega | (dsimp only at hq; omega) | (dsimp only at hq; done))) (by (intro hq; first | omega | (dsimp only at hq; omega) | (dsimp only at hq; done))); exact q) | (have q := PR.keep rcK_K (by decide) (WInvG.r hW1) hall (by (intro hq; first | omega | (dsimp only at hq; omega) | (dsimp only at hq; done))) (by (intro hq; first | omega | (dsimp only at hq; omega) | (dsimp only at hq; done))); exact q) | (have q := Ow.keep (WInvG.k0 hW1) hall (by (intro hq; first | omega | (dsimp only at hq; omega) | (dsimp only at hq; done))); exact q) | (have q := Ow.keep (WInvG.k1 hW1) hall (by (intro hq; first | omega | (dsimp only at hq; omega) | (dsimp only at hq; done))); exact q) | (have q := Ow.keep (WInvG.k2 hW1) hall (by (intro hq; first | omega | (dsimp only at hq; omega) | (dsimp only at hq; done))); exact q) | (have q := PO.keep (WInvG.e hW1) hall (by (intro hq; first | omega | (dsimp only at hq; omega) | (dsimp only at hq; done))) (fun i => by (intro hq; first | omega | (dsimp only at hq; omega) | (dsimp only at hq; done))); exact q))
 · exact fun i p hi hp => Fz.keep (hW.2 i p (by omega) hp) hall (by (intro hq; first | omega | (dsimp only at hq; omega) | (dsimp only at hq; done)))
end Go.Proofs.Ytpflenaoplblkaa.PaWa
end
