import Derived.Below
import Derived.Deep.Draws
import Derived.Deep.AppendLies
import Derived.Maps.AppendAt
import Derived.OwnWalk
import Derived.Laws.BytesArg
import Derived.Laws.MakeOwn
import Derived.Laws.OwnMore
import Derived.Deep.OwnRows
import Derived.Tactics
import Derived.Lib.ConvBytes
import Derived.Laws.Slices
import Derived.WalkKit
import Derived.KernelRfl
import Derived.RowKit3
import Derived.Deep.LoopGhost
import Derived.Deep.QuietTactic
import Derived.BigQuiet
import Derived.WideLaws
import Derived.Deep.DeepCutAuto
import Derived.Deep.CutBlock
import Derived.Deep.RegionHeld3
import Derived.Laws.Rows
import Derived.Lib.AppendStr
import Derived.ArgAppend
import Derived.Laws.IdiomCopy
import Derived.RowKit
import Derived.OrdersHeld
import Derived.Laws.BitsLemmas
import Derived.ProofKit
import Derived.OpenShut
import Derived.Outline
import Derived.Handy
import Derived.WalkLawsBesides
import Derived.WalkSpells
import Derived.Lib.Hide
import Derived.Deep.RegionWith
import Derived.Room.AppendUpon
import Derived.Deep.DeepAppendRoom
import Derived.RangeFuncNested
import Derived.RangeFuncBound
import Derived.RangeFuncCalls
import Derived.RangeFuncLeaves
import Derived.RangeFuncBox
import Derived.Shelf.Abstract
import Derived.Shelf.RegionOpen
import Derived.OwnWalkIn
import Derived.TacticsInMore
import Derived.LoopNIn
import Derived.LoopIn
import Derived.Test.YtmofiicjaldmiaaGreatDoorProg
section
set_option linter.unusedVariables false
set_option linter.unusedSimpArgs false
namespace Go.Proofs.YtmofiicjaldmiaaGreatDoorW.PrintWords
open Go.RowKit
structure Drawn0 (w w' : World) : Prop where mk :: (out : ∃ n, w' = w.drewN n)
theorem Drawn0.refl (w : World) : Drawn0 w w := ⟨⟨0, rfl⟩⟩
theorem Drawn0.step {w w' : World} (h : Drawn0 w w') (n : Nat) : Drawn0 w (w'.drewN n) := by
 obtain ⟨m, rfl⟩ := h
 exact ⟨⟨m + n, World.drewN_drewN ..⟩⟩
theorem Drawn0.grown {w w' : World} (h : Drawn0 w w') : Grown w w' := by
 obtain ⟨n, rfl⟩ := h
 induction n with
 | zero => exact Grown.refl _
 | succ n ih => rw [← World.drew_drewN]; exact Grown.drew ih
def rd (xs : List Int) (i : Int) : Int := xs.getD i.toNat 0
def bt (s : ByteArray) (i : Int) : Int := if h : i.toNat < s.size then ((s[i.toNat]'h).toNat : Int) else 0
def nums (k : IntKind) (xs : List Int) : List Value := xs.map fun x => .int k x
theorem pw_cell_below {w w1 : World} (h : Below w.heap.size w w1) {a : Addr} {v : Value} (hc : w.cell? a = some v) : w1.cell? a = some v := (h.cell (World.block_lt_of_cell? w a hc)).trans hc
theorem add_plain (g j : Nat) : (⟨g, 0, none⟩ : Addr).add j = ⟨g, j, none⟩ := by unfold Addr.add; split <;> simp_all
def ReadsInt (w : World) (k : IntKind) (A : Option Addr) (n : Nat) (xs : List Int) : Prop :=
  xs.length = n ∧ n ≤ 9223372036854775807 ∧ (0 < n → ∃ ad, A = some ad ∧ ∀ j, j < n → w.cell? (ad.add j) = some (.int k (xs.getD j 0)))
theorem ReadsInt.at_ {w : World} {k : IntKind} {A : Option Addr} {n : Nat} {xs : List Int} (h : ReadsInt w k A n xs) (i : Int) (h0 : 0 ≤ i) (h1 : i < n) : ∃ ad, A = some ad ∧ w.cell? (ad.add i.toNat) = some (.int k (rd xs i)) := by
 obtain ⟨ad, e, hc⟩ := h.2.2 (by omega)
 exact ⟨ad, e, hc _ (by omega)⟩
theorem own_nil (W : World) (base : Nat) (e : TypeId) (size : Nat) : W.ownsRow base e size (.slice none 0 0) 0 [] := ⟨by simp, .inl ⟨rfl, rfl⟩⟩
theorem own_base {w : World} {base : Nat} {e : TypeId} {size n : Nat} {v : Value} {xs : List Value} (h : w.ownsRow base e size v n xs) (k : Nat) (hk : v.ownBlock = some k) : base ≤ k := by
 rcases h.2 with ⟨rfl, _⟩ | ⟨g, cap, cur, rfl, hb, _⟩
 · simp [Value.ownBlock] at hk
 ·
  have : g = k := by simpa [Value.ownBlock] using hk
  omega
theorem own_lt {w : World} {base : Nat} {e : TypeId} {size n : Nat} {v : Value} {xs : List Value} (h : w.ownsRow base e size v n xs) (k : Nat) (hk : v.ownBlock = some k) : k < w.heap.size := by
 rcases h.2 with ⟨rfl, _⟩ | ⟨g, cap, cur, rfl, hb, hh, _⟩
 · simp [Value.ownBlock] at hk
 ·
  have : g = k := by simpa [Value.ownBlock] using hk
  subst this
  exact (Array.getElem?_eq_some_iff.1 hh).1
section
variable {P : Program} {ops : Array Oper} {rest : List Oper} {o : Oper} {a : Act} {Q : Exit → Act → World → Prop}
end
section
variable {P : Program}
theorem print_make (t e : TypeId) (k : IntKind) (bytes : Nat) (ht : P.underlying t = some (.slice e)) (hinfo : (P.info? e).map (fun i => (i.zero, i.size, i.bytes)) = some (some (.int k 0), 1, bytes)) (hb0 : 0 < bytes)
  (m : Nat) (hn : m * bytes ≤ 281474976710656) :
  ∀ W : World, (Instr.makeSlice t (.int .i64 (m : Int)) (.int .i64 (m : Int))).run P W = .ok (.slice (some ⟨W.heap.size, 0, none⟩) m m) (W.alloc (.cells (madeCells #[.int k 0] m) e)) := by
 intro W
 have hm : m ≤ 281474976710656 := Nat.le_trans (Nat.le_mul_of_pos_right _ hb0) hn
 exact run_make_row' t e (.int k 0) bytes ht hinfo rfl .i64 .i64 m (by rw [Nat.mul_comm]; exact hn) (by omega) W
end
theorem own_made (W : World) (base : Nat) (e : TypeId) (k : IntKind) (m : Nat) (hb : base ≤ W.heap.size) (hm : m ≤ 9223372036854775807) :
  (W.alloc (.cells (madeCells #[.int k 0] m) e)).ownsRow base e 1 (.slice (some ⟨W.heap.size, 0, none⟩) m m) m (nums k (List.replicate m 0)) := by
 have h := World.ownsRow_lit (base := base) (e := e) (size := 1) W (madeCells #[.int k 0] m) m hb (by simpa [maxLen] using hm) (by simp [size_madeCells])
 have hl : (madeCells #[Value.int k 0] m).toList = nums k (List.replicate m 0) := by
  apply List.ext_getElem
  · simp [nums, madeCells]
  ·
   intro i h1 h2
   simp [nums, madeCells, Nat.mod_one]
 rwa [hl] at h
section
variable {P : Program} {ops : Array Oper} {rest : List Oper} {o : Oper} {a : Act} {Q : Exit → Act → World → Prop}
end
theorem ReadsInt.take_ {w : World} {k : IntKind} {A : Option Addr} {n : Nat} {xs : List Int} (h : ReadsInt w k A n xs) (i : Nat) (hi : i ≤ n) : ReadsInt w k A i (xs.take i) := by
 refine ⟨by rw [List.length_take, h.1]; omega, by have := h.2.1; omega, fun hp => ?_⟩
 obtain ⟨ad, e, hc⟩ := h.2.2 (by omega)
 refine ⟨ad, e, fun j hj => ?_⟩
 rw [hc j (by omega)]
 simp [List.getD_eq_getElem?_getD, hj]
def LeO {α : Type} (a b : Option α) : Prop := ∀ r, a = some r → b = some r
theorem LeO.refl {α : Type} (a : Option α) : LeO a a := fun _ h => h
theorem LeO.none {α : Type} (b : Option α) : LeO Option.none b := fun _ h => by cases h
theorem LeO.trans {α : Type} {a b c : Option α} (h : LeO a b) (k : LeO b c) : LeO a c := fun r hr => k r (h r hr)
theorem LeO.bind {α β : Type} {a a' : Option α} {f f' : α → Option β} (h : LeO a a') (k : ∀ x, LeO (f x) (f' x)) : LeO (a.bind f) (a'.bind f') := by
 intro r hr
 obtain ⟨x, hx, hf⟩ := Option.bind_eq_some_iff.1 hr
 exact Option.bind_eq_some_iff.2 ⟨x, h x hx, k x r hf⟩
theorem LeO.map {α β : Type} {a a' : Option α} (f : α → β) (h : LeO a a') : LeO (a.map f) (a'.map f) := by
 intro r hr
 obtain ⟨x, hx, hf⟩ := Option.map_eq_some_iff.1 hr
 exact Option.map_eq_some_iff.2 ⟨x, h x hx, hf⟩
def Reps {α : Type} (R : α → List Value → Prop) (size : Nat) (ps : List α) (cs : List Value) : Prop :=
  cs.length = ps.length * size ∧ ∀ j p, ps[j]? = some p → R p ((cs.drop (j * size)).take size)
theorem Reps.none {α : Type} (R : α → List Value → Prop) (size : Nat) : Reps R size [] [] := ⟨by simp, fun j p h => by simp at h⟩
theorem Reps.snoc {α : Type} {R : α → List Value → Prop} {size : Nat} {ps : List α} {cs c : List Value} {p : α} (h : Reps R size ps cs) (hp : R p c) (hc : c.length = size) : Reps R size (ps ++ [p]) (cs ++ c) := by
 refine ⟨by rw [List.length_append, h.1, hc, List.length_append, List.length_singleton, Nat.add_mul, Nat.one_mul], fun j q hq => ?_⟩
 rcases Nat.lt_or_ge j ps.length with hj | hj
 ·
  rw [List.getElem?_append_left hj] at hq
  have h1 : j * size + size ≤ cs.length := by rw [h.1, ← Nat.succ_mul]; exact Nat.mul_le_mul_right _ hj
  have h2 := h.2 j q hq
  rw [List.drop_append_of_le_length (by omega), List.take_append_of_le_length (by rw [List.length_drop]; omega)]
  exact h2
 ·
  have hj' : j = ps.length := by
   have := (List.getElem?_eq_some_iff.1 hq).1
   rw [List.length_append, List.length_singleton] at this
   omega
  subst hj'
  have hq' : p = q := by simpa using hq
  subst hq'
  rw [← h.1, List.drop_left, ← hc, List.take_length]
  exact hp
theorem Reps.imp_ {α : Type} {R R' : α → List Value → Prop} {size : Nat} {ps : List α} {cs : List Value} (h : Reps R size ps cs) (hR : ∀ p c, R p c → R' p c) : Reps R' size ps cs := ⟨h.1, fun j p hj => hR _ _ (h.2 j p hj)⟩
def ReadsRow {α : Type} (R : α → List Value → Prop) (size : Nat) (w : World) (A : Option Addr) (n : Nat) (ps : List α) : Prop :=
  ps.length = n ∧ n ≤ 9223372036854775807 ∧ (0 < n → ∃ ad, A = some ad ∧ ∀ j p, ps[j]? = some p → ∃ c, c.length = size ∧ R p c ∧ ∀ i u, c[i]? = some u → w.cell? (ad.add (j * size + i)) = some u)
theorem ReadsRow.get_ {α : Type} {R : α → List Value → Prop} {size : Nat} {w : World} {A : Option Addr} {n : Nat} {ps : List α} (h : ReadsRow R size w A n ps) (d : α) (i : Int) (h0 : 0 ≤ i) (h1 : i < n) :
  ∃ ad c, A = some ad ∧ c.length = size ∧ R (ps.getD i.toNat d) c ∧ ∀ j u, c[j]? = some u → w.cell? (ad.add (i.toNat * size + j)) = some u := by
 obtain ⟨ad, e, hc⟩ := h.2.2 (by omega)
 have hl : i.toNat < ps.length := by have := h.1; omega
 obtain ⟨c, hs, hr, hcell⟩ := hc i.toNat _ (List.getElem?_eq_getElem hl)
 refine ⟨ad, c, e, hs, ?_, hcell⟩
 rw [List.getD_eq_getElem?_getD, List.getElem?_eq_getElem hl]
 exact hr
theorem ReadsRow.imp_ {α : Type} {R R' : α → List Value → Prop} {size : Nat} {w w1 : World} {A : Option Addr} {n : Nat} {ps : List α} (h : ReadsRow R size w A n ps) (hb : Below w.heap.size w w1) (hR : ∀ p c, R p c → R' p c) : ReadsRow R' size w1 A n ps :=
 ⟨h.1, h.2.1, fun hn => by
  obtain ⟨ad, e, hc⟩ := h.2.2 hn
  refine ⟨ad, e, fun j p hj => ?_⟩
  obtain ⟨c, hs, hr, hcell⟩ := hc j p hj
  exact ⟨c, hs, hR _ _ hr, fun i u hu => pw_cell_below hb (hcell i u hu)⟩⟩
theorem own_reads_row {α : Type} {R : α → List Value → Prop} {w : World} {base n size : Nat} {e : TypeId} {v : Value} {ps : List α} {cs : List Value} (h : w.ownsRow base e size v n cs) (hR : Reps R size ps cs) (hn : ps.length = n) :
  ∃ A c, v = .slice A n c ∧ ReadsRow R size w A n ps := by
 rcases Nat.eq_zero_or_pos n with h0 | h0
 ·
  rcases h.2 with ⟨rfl, rfl⟩ | ⟨g, cap, cur, rfl, _⟩
  · exact ⟨none, 0, rfl, hn, by omega, fun hp => absurd hp (by omega)⟩
  · exact ⟨_, cap, rfl, hn, by omega, fun hp => absurd hp (by omega)⟩
 ·
  obtain ⟨g, cap, rfl, _, _⟩ := h.form h0
  have hm : n ≤ 9223372036854775807 := by
   rcases h.2 with ⟨_, h1⟩ | ⟨g', cap', cur, he, _, _, h1, h2, _⟩
   · omega
   ·
    simp only [maxLen] at h2
    omega
  refine ⟨_, cap, rfl, hn, hm, fun _ => ⟨_, rfl, fun j p hj => ⟨(cs.drop (j * size)).take size, ?_, hR.2 j p hj, fun i u hu => ?_⟩⟩⟩
  ·
   have hjl := (List.getElem?_eq_some_iff.1 hj).1
   have h1 : j * size + size ≤ cs.length := by rw [hR.1, ← Nat.succ_mul]; exact Nat.mul_le_mul_right _ hjl
   rw [List.length_take, List.length_drop]
   omega
  ·
   refine h.cells (g := g) rfl _ u ?_
   rw [List.getElem?_take] at hu
   split at hu
   ·
    rw [List.getElem?_drop] at hu
    exact hu
   · cases hu
section
variable {P : Program} {ops : Array Oper} {rest : List Oper} {o : Oper} {a : Act} {Q : Exit → Act → World → Prop}
theorem print_append_cells {w0 W : World} (base : Nat) (hgd : o.guard = none) (s x : Operand) (t e : TypeId) (z : Value) (size bytes : Nat)
  (ho : o.op = .call { callee := .builtin .append, args := #[s, x], argTypes := #[t, t] })
  (ht : P.underlying t = some (.slice e)) (hinfo : (P.info? e).map (fun i => (i.zero, i.size, i.bytes)) = some (some z, size, bytes)) (hz : z.cells.size = size) (hs0 : 0 < size) (hb0 : 0 < bytes)
  (v : Value) (n : Nat) (xs ys : List Value) (hs : a.eval s = v) (hx : a.eval x = .slice (some ⟨W.heap.size, 0, none⟩) 1 1) (hys : ys.length = size) (h1 : ∀ u ∈ ys, u.oneCell' = true)
  (HO : W.ownsRow base e size v n xs) (HB : Below base w0 W) (hbase : base ≤ W.heap.size) (hl : (n + 1) * bytes ≤ 140737488355328)
  (h : ∀ v1 w1, w1.ownsRow base e size v1 (n + 1) (xs ++ ys) → Below base w0 w1 → W.grownBy w1 v.ownBlock → (v1.ownBlock = v.ownBlock ∨ ∃ b, v1.ownBlock = some b ∧ W.heap.size ≤ b) → wpList P ops Q rest (a.put o.dst v1) w1) :
  wpList P ops Q (o :: rest) a (W.alloc (.cells ys.toArray e)) := by
 obtain ⟨i0, hi, hzz⟩ := Option.map_eq_some_iff.1 hinfo
 simp only [Prod.mk.injEq] at hzz
 obtain ⟨hz0, hz1, hz2⟩ := hzz
 have hlen : n + 1 ≤ 140737488355328 := Nat.le_trans (Nat.le_mul_of_pos_right _ hb0) hl
 refine wpList_append_own_at (W.alloc (.cells ys.toArray e)) hgd s x t ho base e i0 z size bytes ht hi hz0 hz1 hz2 hz hs0 v n xs hs (HO.alloc _) ⟨W.heap.size, 0, none⟩ 1 1 ys hx (by rw [hys]; simp)
  (by simpa using World.news_of_block (cs := ys.toArray) (t := e) (fr := (0, 0)) (heap_alloc_new W (.cells ys.toArray e))) h1 (by simp only [maxLen]; omega) hl (by simp; omega) ?_
 intro v1 w1 hown hg _ hat
 refine h v1 w1 hown ((HB.alloc hbase _).grown hg (by simp; omega) (own_base HO)) (World.grownBy.trans (World.grownBy_alloc W _ _) hg) ?_
 rcases hat with hat | hat
 · exact .inl hat
 · exact .inr ⟨_, hat, by simp⟩
end
theorem blk_set {w : World} {g : Nat} {t : TypeId} {cs : Array Value} (h : w.heap[g]? = some (.cells cs t (0, 0))) (i : Nat) (u : Value) : (w.setCell ⟨g, i, none⟩ u).heap[g]? = some (.cells (cs.setIfInBounds i u) t (0, 0)) := by
  simp [World.setCell, Array.getElem?_modify, h]
theorem blk_lt {w : World} {g : Nat} {o : Obj} (h : w.heap[g]? = some o) : g < w.heap.size := (Array.getElem?_eq_some_iff.1 h).1
def KeepBut (w w' : World) (g : Nat) (row : Option Nat) : Prop := w.heap.size ≤ w'.heap.size ∧ ∀ i, i < w.heap.size → i ≠ g → some i ≠ row → w'.heap[i]? = w.heap[i]?
theorem KeepBut.refl (w : World) (g : Nat) (row : Option Nat) : KeepBut w w g row := ⟨Nat.le_refl _, fun _ _ _ _ => rfl⟩
theorem KeepBut.trans {w w1 w2 : World} {g : Nat} {row row1 : Option Nat} (h : KeepBut w w1 g row) (k : KeepBut w1 w2 g row1) (hr : row1 = row ∨ ∃ b, row1 = some b ∧ w.heap.size ≤ b) : KeepBut w w2 g row :=
 ⟨Nat.le_trans h.1 k.1, fun i hi hg hn => by
  refine (k.2 i (Nat.lt_of_lt_of_le hi h.1) hg ?_).trans (h.2 i hi hg hn)
  rcases hr with rfl | ⟨b, rfl, hb⟩
  · exact hn
  ·
   intro e
   injection e with e
   omega⟩
theorem KeepBut.blk {w w1 : World} {g g' : Nat} {row : Option Nat} {o : Obj} (h : KeepBut w w1 g row) (hb : w.heap[g']? = some o) (hg : g' ≠ g) (hr : some g' ≠ row) : w1.heap[g']? = some o := (h.2 g' (blk_lt hb) hg hr).trans hb
theorem KeepBut.own {w w1 : World} {g : Nat} {row : Option Nat} {base : Nat} {e : TypeId} {size n : Nat} {v : Value} {xs : List Value} (h : KeepBut w w1 g row) (ho : w.ownsRow base e size v n xs) (hg : v.ownBlock ≠ some g) (hr : v.ownBlock = none ∨ v.ownBlock ≠ row) : w1.ownsRow base e size v n xs := by
 obtain ⟨h1, h2⟩ := ho
 refine ⟨h1, ?_⟩
 rcases h2 with h2 | ⟨b, cap, cur, rfl, hb, hh, r⟩
 · exact .inl h2
 ·
  refine .inr ⟨b, cap, cur, rfl, hb, h.blk hh ?_ ?_, r⟩
  ·
   intro e
   exact hg (by rw [← e]; rfl)
  ·
   rcases hr with hr | hr
   · simp [Value.ownBlock] at hr
   · exact hr
def Ev {α : Type} (g : Nat → Option α) (r : α) : Prop := ∃ K, ∀ k, K ≤ k → g k = some r
theorem Ev.bind {α β : Type} {g : Nat → Option α} {f : Nat → α → Option β} {a : α} {r : β} (h : Ev g a) (k : Ev (fun n => f n a) r) : Ev (fun n => (g n).bind (f n)) r := by
 obtain ⟨K, h⟩ := h
 obtain ⟨K', k⟩ := k
 refine ⟨max K K', fun n hn => ?_⟩
 have h1 := h n (by omega)
 have h2 := k n (by omega)
 simp only [h1, Option.bind_some]
 exact h2
theorem Ev.step {α : Type} {g f : Nat → Option α} {r : α} (h : ∀ k, g (k + 1) = f k) (k : Ev f r) : Ev g r := by
 obtain ⟨K, k⟩ := k
 refine ⟨K + 1, fun n hn => ?_⟩
 obtain ⟨m, rfl⟩ : ∃ m, n = m + 1 := ⟨n - 1, by omega⟩
 rw [h]
 exact k m (by omega)
theorem Ev.congr {α : Type} {g f : Nat → Option α} {r : α} (h : ∀ k, g k = f k) (k : Ev f r) : Ev g r := by
 obtain ⟨K, k⟩ := k
 exact ⟨K, fun n hn => (h n).trans (k n hn)⟩
section
variable {P : Program} {ops : Array Oper} {o : Oper} {a : Act} {Q : Exit → Act → World → Prop} {K : Act → World → Prop}
theorem step_append_cells {w0 W : World} (base : Nat) (hw : Region.wanted o (yielded ops a.tmps) = true) (s x : Operand) (t e : TypeId) (z : Value) (size bytes : Nat)
  (ho : o.op = .call { callee := .builtin .append, args := #[s, x], argTypes := #[t, t] })
  (ht : P.underlying t = some (.slice e)) (hinfo : (P.info? e).map (fun i => (i.zero, i.size, i.bytes)) = some (some z, size, bytes)) (hz : z.cells.size = size) (hs0 : 0 < size) (hb0 : 0 < bytes)
  (v : Value) (n : Nat) (xs ys : List Value) (hs : a.eval s = v) (hx : a.eval x = .slice (some ⟨W.heap.size, 0, none⟩) 1 1) (hys : ys.length = size) (h1 : ∀ u ∈ ys, u.oneCell' = true)
  (HO : W.ownsRow base e size v n xs) (HB : Below base w0 W) (hbase : base ≤ W.heap.size) (hl : (n + 1) * bytes ≤ 140737488355328)
  (h : ∀ v1 w1, w1.ownsRow base e size v1 (n + 1) (xs ++ ys) → Below base w0 w1 → W.grownBy w1 v.ownBlock → (v1.ownBlock = v.ownBlock ∨ ∃ b, v1.ownBlock = some b ∧ W.heap.size ≤ b) → K (a.put o.dst v1) w1) :
  if Region.wanted o (yielded ops a.tmps) = true then Oper.wp P o a (W.alloc (.cells ys.toArray e)) K Q else K (a.put o.dst undef) (W.alloc (.cells ys.toArray e)) := by
 obtain ⟨i0, hi, hzz⟩ := Option.map_eq_some_iff.1 hinfo
 simp only [Prod.mk.injEq] at hzz
 obtain ⟨hz0, hz1, hz2⟩ := hzz
 have hlen : n + 1 ≤ 140737488355328 := Nat.le_trans (Nat.le_mul_of_pos_right _ hb0) hl
 rw [if_pos hw]
 obtain ⟨v1, w1, hr, hown, hg, _, hat⟩ := run_append_own_at (P := P) (W.alloc (.cells ys.toArray e)) base t o.type e i0 z size bytes ht hi hz0 hz1 hz2 hz hs0 v n xs (HO.alloc _) ⟨W.heap.size, 0, none⟩ 1 1 ys (by rw [hys]; simp)
  (by simpa using World.news_of_block (cs := ys.toArray) (t := e) (fr := (0, 0)) (heap_alloc_new W (.cells ys.toArray e))) h1 (by simp only [maxLen]; omega) hl (by simp; omega)
 unfold Oper.wp execOp
 simp only [ho, resolve, invoke, builtin, Sem.run_bind, Sem.run_pure, Result.andThen_ok, List.map_toArray, List.map_cons, List.map_nil, hs, hx, hr]
 refine h v1 w1 hown ((HB.alloc hbase _).grown hg (by simp; omega) (own_base HO)) (World.grownBy.trans (World.grownBy_alloc W _ _) hg) ?_
 rcases hat with hat | hat
 · exact .inl hat
 · exact .inr ⟨_, hat, by simp⟩
end
theorem own_weaken {w : World} {base base' : Nat} {e : TypeId} {size n : Nat} {v : Value} {xs : List Value} (h : w.ownsRow base e size v n xs) (hb : base' ≤ base) : w.ownsRow base' e size v n xs := by
 obtain ⟨h1, h2⟩ := h
 refine ⟨h1, ?_⟩
 rcases h2 with h2 | ⟨g, cap, cur, rfl, hg, r⟩
 · exact .inl h2
 · exact .inr ⟨g, cap, cur, rfl, Nat.le_trans hb hg, r⟩
section
variable {α : Type} {enc : α → Value} {d : α}
def encs (enc : α → Value) (xs : List α) : List Value := xs.map enc
def rdOf (d : α) (xs : List α) (i : Int) : α := xs.getD i.toNat d
theorem encs_length (xs : List α) : (encs enc xs).length = xs.length := by simp [encs]
def ReadsOf (enc : α → Value) (d : α) (w : World) (A : Option Addr) (n : Nat) (xs : List α) : Prop :=
  xs.length = n ∧ n ≤ 9223372036854775807 ∧ (0 < n → ∃ ad, A = some ad ∧ ∀ j, j < n → w.cell? (ad.add j) = some (enc (xs.getD j d)))
theorem ReadsOf.at_ {w : World} {A : Option Addr} {n : Nat} {xs : List α} (h : ReadsOf enc d w A n xs) (i : Int) (h0 : 0 ≤ i) (h1 : i < n) : ∃ ad, A = some ad ∧ w.cell? (ad.add i.toNat) = some (enc (rdOf d xs i)) := by
 obtain ⟨ad, e, hc⟩ := h.2.2 (by omega)
 exact ⟨ad, e, hc _ (by omega)⟩
theorem ReadsOf.take_ {w : World} {A : Option Addr} {n : Nat} {xs : List α} (h : ReadsOf enc d w A n xs) (i : Nat) (hi : i ≤ n) : ReadsOf enc d w A i (xs.take i) := by
 refine ⟨by rw [List.length_take, h.1]; omega, by have := h.2.1; omega, fun hp => ?_⟩
 obtain ⟨ad, e, hc⟩ := h.2.2 (by omega)
 refine ⟨ad, e, fun j hj => ?_⟩
 rw [hc j (by omega)]
 simp [List.getD_eq_getElem?_getD, hj]
theorem own_store_of {W : World} {base g n cap : Nat} {e : TypeId} {xs : List α} (h : W.ownsRow base e 1 (.slice (some ⟨g, 0, none⟩) n cap) n (encs enc xs)) (i : Int) (x : α) :
  (W.setCell ⟨g, i.toNat, none⟩ (enc x)).ownsRow base e 1 (.slice (some ⟨g, 0, none⟩) n cap) n (encs enc (xs.set i.toNat x)) ∧ W.grownBy (W.setCell ⟨g, i.toNat, none⟩ (enc x)) (some g) := by
 have hs := h.stored i.toNat (enc x)
 have he : (encs enc xs).set i.toNat (enc x) = encs enc (xs.set i.toNat x) := by simp [encs, List.map_set]
 rwa [he] at hs
end
section
variable {α : Type} {P : Program} {ops : Array Oper} {rest : List Oper} {o : Oper} {a : Act} {Q : Exit → Act → World → Prop}
end
section
variable {P : Program}
end
theorem own_le {w : World} {base n m c size : Nat} {e : TypeId} {A : Option Addr} {xs : List Value} (h : w.ownsRow base e size (.slice A m c) n xs) : m ≤ c := by
 rcases h.2 with ⟨he, _⟩ | ⟨g, cap, cur, he, _, _, hnc, _⟩
 ·
  injection he with _ h2 h3
  omega
 ·
  injection he with _ h2 h3
  omega
def OwnRow {α : Type} (R : α → List Value → Prop) (e : TypeId) (size : Nat) (w : World) (base : Nat) (v : Value) (ps : List α) : Prop :=
  ∃ inner, w.ownsRow base e size v ps.length inner ∧ Reps R size ps inner
section
variable {α : Type} {R R' : α → List Value → Prop} {e : TypeId} {size : Nat} {w w1 : World} {base : Nat} {v : Value} {ps : List α}
theorem OwnRow.none_ (R : α → List Value → Prop) (e : TypeId) (size : Nat) (w : World) (base : Nat) : OwnRow R e size w base (.slice none 0 0) [] := ⟨[], own_nil _ _ _ _, Reps.none _ _⟩
theorem OwnRow.imp_ (h : OwnRow R e size w base v ps) (hR : ∀ p c, R p c → R' p c) : OwnRow R' e size w base v ps := by
 obtain ⟨inner, ho, hr⟩ := h
 exact ⟨inner, ho, hr.imp_ hR⟩
theorem OwnRow.reads (h : OwnRow R e size w base v ps) : ∃ A c, v = .slice A ps.length c ∧ ps.length ≤ c ∧ ReadsRow R size w A ps.length ps := by
 obtain ⟨inner, ho, hr⟩ := h
 obtain ⟨A, c, rfl, hrow⟩ := own_reads_row ho hr rfl
 exact ⟨A, c, rfl, own_le ho, hrow⟩
theorem OwnRow.lit (W : World) (base : Nat) {inner : List Value} (hr : Reps R size ps inner) (hb : base ≤ W.heap.size) (hm : ps.length ≤ 9223372036854775807) :
  OwnRow R e size (W.alloc (.cells inner.toArray e)) base (.slice (some ⟨W.heap.size, 0, none⟩) ps.length ps.length) ps := by
 have h := World.ownsRow_lit (base := base) (e := e) (size := size) W inner.toArray ps.length hb (by simpa [maxLen] using hm) (by simpa using hr.1)
 exact ⟨inner, by simpa using h, hr⟩
end
section
variable {P : Program} {ops : Array Oper} {rest : List Oper} {o : Oper} {a : Act} {Q : Exit → Act → World → Prop} {α : Type} {R : α → List Value → Prop}
theorem OwnRow.append {w0 W : World} (base : Nat) (hgd : o.guard = none) (s x : Operand) (t e : TypeId) (z : Value) (size bytes : Nat)
  (ho : o.op = .call { callee := .builtin .append, args := #[s, x], argTypes := #[t, t] })
  (ht : P.underlying t = some (.slice e)) (hinfo : (P.info? e).map (fun i => (i.zero, i.size, i.bytes)) = some (some z, size, bytes)) (hz : z.cells.size = size) (hs0 : 0 < size) (hb0 : 0 < bytes)
  (v : Value) (ps : List α) (p : α) (cs : List Value) (hs : a.eval s = v) (hx : a.eval x = .slice (some ⟨W.heap.size, 0, none⟩) 1 1) (hp : R p cs) (hcs : cs.length = size) (h1 : ∀ u ∈ cs, u.oneCell' = true)
  (HO : OwnRow R e size W base v ps) (HB : Below base w0 W) (hbase : base ≤ W.heap.size) (hl : (ps.length + 1) * bytes ≤ 140737488355328)
  (h : ∀ v1 w1, OwnRow R e size w1 base v1 (ps ++ [p]) → Below base w0 w1 → W.grownBy w1 v.ownBlock → (v1.ownBlock = v.ownBlock ∨ ∃ b, v1.ownBlock = some b ∧ W.heap.size ≤ b) → wpList P ops Q rest (a.put o.dst v1) w1) :
  wpList P ops Q (o :: rest) a (W.alloc (.cells cs.toArray e)) := by
 obtain ⟨inner, hown, hr⟩ := HO
 refine print_append_cells base hgd s x t e z size bytes ho ht hinfo hz hs0 hb0 v ps.length inner cs hs hx hcs h1 hown HB hbase hl ?_
 intro v1 w1 hown1 hb1 hg1 hat1
 exact h v1 w1 ⟨inner ++ cs, by rw [List.length_append, List.length_singleton]; exact hown1, hr.snoc hp hcs⟩ hb1 hg1 hat1
end
section
variable {P : Program} {ops : Array Oper} {o : Oper} {a : Act} {Q : Exit → Act → World → Prop} {K : Act → World → Prop} {α : Type} {R : α → List Value → Prop}
end
theorem ReadsRow.inner_ {α : Type} {R : α → List Value → Prop} {size : Nat} {w : World} {ad : Addr} {n : Nat} {ps : List α} (h : ReadsRow R size w (some ad) n ps) :
  ∃ inner, Reps R size ps inner ∧ ∀ j u, inner[j]? = some u → w.cell? (ad.add j) = some u := by
 have key : ∀ m, m ≤ ps.length → ∃ inner, Reps R size (ps.take m) inner ∧ ∀ j u, inner[j]? = some u → w.cell? (ad.add j) = some u := by
  intro m
  induction m with
  | zero => exact fun _ => ⟨[], Reps.none _ _, fun j u hu => by simp at hu⟩
  | succ m ih =>
   intro hm
   obtain ⟨inner, hr, hc⟩ := ih (by omega)
   obtain ⟨ad', he, hcell⟩ := h.2.2 (by have := h.1; omega)
   injection he with he
   subst he
   obtain ⟨c, hcl, hp, hcc⟩ := hcell m _ (List.getElem?_eq_getElem (show m < ps.length by omega))
   refine ⟨inner ++ c, ?_, fun j u hu => ?_⟩
   ·
    rw [List.take_succ_eq_append_getElem (show m < ps.length by omega)]
    exact hr.snoc hp hcl
   ·
    have hil : inner.length = m * size := by rw [hr.1, List.length_take, Nat.min_eq_left (by omega)]
    rcases Nat.lt_or_ge j inner.length with hj | hj
    ·
     rw [List.getElem?_append_left hj] at hu
     exact hc j u hu
    ·
     rw [List.getElem?_append_right hj] at hu
     have := hcc (j - inner.length) u hu
     rwa [hil, Nat.add_sub_cancel' (by omega)] at this
 obtain ⟨inner, hr, hc⟩ := key ps.length (Nat.le_refl _)
 rw [List.take_length] at hr
 exact ⟨inner, hr, hc⟩
section
variable {α : Type} {P : Program}
end
section
variable {P : Program} {ops : Array Oper} {rest : List Oper} {o : Oper} {a : Act} {Q : Exit → Act → World → Prop}
end
structure Kd (α : Type) where
 sz : Nat
 E : List Nat
 K : World → α → List Value → Prop
 M : World → Nat → (Nat → Prop) → α → List Value → Prop
 K_len : ∀ {w x cs}, K w x cs → cs.length = sz
 K_one : ∀ {w x cs}, K w x cs → ∀ u ∈ cs, u.oneCell' = true
 K_below : ∀ {w w1 : World} {x cs}, Below w.heap.size w w1 → K w x cs → K w1 x cs
 K_of_M : ∀ {w base ok x cs}, M w base ok x cs → K w x cs
 M_mono : ∀ {w base ok ok' x cs}, (∀ k, ok k → ok' k) → M w base ok x cs → M w base ok' x cs
 M_bound : ∀ {w : World} {base ok x cs}, M w base ok x cs → M w base (fun k => ok k ∧ base ≤ k ∧ k < w.heap.size ∧ ∃ q, q ∈ E ∧ ∃ cells, w.heap[k]? = some (.cells cells q (0, 0))) x cs
 M_move : ∀ {w w1 : World} {base ok x cs}, (∀ k, ok k → w1.heap[k]? = w.heap[k]?) → M w base ok x cs → M w1 base ok x cs
 M_lower : ∀ {w base base' ok x cs}, base' ≤ base → M w base ok x cs → M w base' ok x cs
theorem own_move {w w1 : World} {base : Nat} {e : TypeId} {size n : Nat} {v : Value} {xs : List Value} (h : w.ownsRow base e size v n xs) (hm : ∀ k, v.ownBlock = some k → w1.heap[k]? = w.heap[k]?) : w1.ownsRow base e size v n xs := by
 obtain ⟨h1, h2⟩ := h
 refine ⟨h1, ?_⟩
 rcases h2 with h2 | ⟨g, cap, cur, rfl, hg, hh, r⟩
 · exact .inl h2
 · exact .inr ⟨g, cap, cur, rfl, hg, (hm g (by simp [Value.ownBlock])).trans hh, r⟩
theorem own_typed {w : World} {base : Nat} {e : TypeId} {size n : Nat} {v : Value} {xs : List Value} (h : w.ownsRow base e size v n xs) (k : Nat) (hk : v.ownBlock = some k) : ∃ cells, w.heap[k]? = some (.cells cells e (0, 0)) := by
 rcases h.2 with ⟨rfl, _⟩ | ⟨g, cap, cur, rfl, hg, hh, r⟩
 · simp [Value.ownBlock] at hk
 ·
  have : g = k := by simpa [Value.ownBlock] using hk
  subst this
  exact ⟨cur, hh⟩
namespace Kd
def C {α : Type} (d : Kd α) (w : World) (A : Option Addr) (n : Nat) (xs : List α) : Prop := ReadsRow (d.K w) d.sz w A n xs
def R {α : Type} (d : Kd α) (e : Nat) (w : World) (base : Nat) (ok : Nat → Prop) (v : Value) (xs : List α) : Prop :=
  (∀ k, v.ownBlock = some k → ok k) ∧ OwnRow (d.M w base (fun k => ok k ∧ some k ≠ v.ownBlock)) e d.sz w base v xs
section
variable {α : Type} {d : Kd α} {e : Nat} {w w1 : World} {base : Nat} {ok ok' : Nat → Prop} {v : Value} {xs : List α}
theorem C_below {A : Option Addr} {n : Nat} (h : d.C w A n xs) (hb : Below w.heap.size w w1) : d.C w1 A n xs := ReadsRow.imp_ h hb (fun _ _ hp => d.K_below hb hp)
theorem R_nil (d : Kd α) (e : Nat) (w : World) (base : Nat) (ok : Nat → Prop) : d.R e w base ok (.slice none 0 0) [] := ⟨fun k hk => by simp [Value.ownBlock] at hk, OwnRow.none_ _ _ _ _ _⟩
theorem R_mono (h : d.R e w base ok v xs) (hok : ∀ k, ok k → ok' k) : d.R e w base ok' v xs := ⟨fun k hk => hok k (h.1 k hk), h.2.imp_ (fun _ _ hp => d.M_mono (fun k hk => ⟨hok k hk.1, hk.2⟩) hp)⟩
theorem R_bound (h : d.R e w base ok v xs) : d.R e w base (fun k => ok k ∧ base ≤ k ∧ k < w.heap.size ∧ ∃ q, q ∈ e :: d.E ∧ ∃ cells, w.heap[k]? = some (.cells cells q (0, 0))) v xs := by
 obtain ⟨h0, inner, ho, hr⟩ := h
 refine ⟨fun k hk => ?_, inner, ho, hr.imp_ (fun _ _ hp => d.M_mono (fun k hk => ?_) (d.M_bound hp))⟩
 ·
  obtain ⟨cells, hc⟩ := own_typed ho k hk
  exact ⟨h0 k hk, own_base ho k hk, own_lt ho k hk, e, List.mem_cons_self, cells, hc⟩
 ·
  obtain ⟨⟨h1, h2⟩, h3, h4, q, hq, hc⟩ := hk
  exact ⟨⟨h1, h3, h4, q, List.mem_cons_of_mem _ hq, hc⟩, h2⟩
theorem R_move (h : d.R e w base ok v xs) (hm : ∀ k, ok k → w1.heap[k]? = w.heap[k]?) : d.R e w1 base ok v xs := by
 obtain ⟨h0, inner, ho, hr⟩ := h
 exact ⟨h0, inner, own_move ho (fun k hk => hm k (h0 k hk)), hr.imp_ (fun _ _ hp => d.M_move (fun k hk => hm k hk.1) hp)⟩
theorem R_lower {base' : Nat} (h : d.R e w base ok v xs) (hb : base' ≤ base) : d.R e w base' ok v xs := by
 obtain ⟨h0, inner, ho, hr⟩ := h
 exact ⟨h0, inner, own_weaken ho hb, hr.imp_ (fun _ _ hp => d.M_lower hb hp)⟩
theorem R_step (h : d.R e w base ok v xs) (hm : ∀ k, ok k → k < w.heap.size → w1.heap[k]? = w.heap[k]?) : d.R e w1 base ok v xs :=
  R_mono (R_move (R_bound h) (fun k hk => hm k hk.1 hk.2.2.1)) (fun _ hk => hk.1)
theorem R_below (h : d.R e w base ok v xs) (hb : Below w.heap.size w w1) : d.R e w1 base ok v xs := R_step h (fun k _ hk => hb.block k hk)
theorem R_reads (h : d.R e w base ok v xs) : ∃ A c, v = .slice A xs.length c ∧ xs.length ≤ c ∧ d.C w A xs.length xs := by
 obtain ⟨A, c, he, hl, hr⟩ := OwnRow.reads h.2
 exact ⟨A, c, he, hl, hr.imp_ (Below.refl _ _) (fun _ _ hp => d.K_of_M hp)⟩
theorem R_own (h : d.R e w base ok v xs) : ∃ inner, w.ownsRow base e d.sz v xs.length inner := by
 obtain ⟨_, inner, ho, _⟩ := h
 exact ⟨inner, ho⟩
end
def scalar {α : Type} (enc : α → Value) (h1 : ∀ x, (enc x).oneCell' = true) : Kd α where
 sz := 1
 E := []
 K := fun _ x cs => cs = [enc x]
 M := fun _ _ _ x cs => cs = [enc x]
 K_len := fun h => by rw [h]; rfl
 K_one := fun h u hu => by
  rw [h] at hu
  rw [List.mem_singleton.1 hu]
  exact h1 _
 K_below := fun _ h => h
 K_of_M := fun h => h
 M_mono := fun _ h => h
 M_bound := fun h => h
 M_move := fun _ h => h
 M_lower := fun _ h => h
def int (k : IntKind) : Kd Int := scalar (Value.int k) (fun _ => rfl)
def bool : Kd Bool := scalar Value.bool (fun _ => rfl)
def string : Kd ByteArray := scalar Value.string (fun _ => rfl)
def slice {α : Type} (e : Nat) (d : Kd α) : Kd (List α) where
 sz := 1
 E := e :: d.E
 K := fun w xs cs => ∃ A c, cs = [.slice A xs.length c] ∧ xs.length ≤ c ∧ d.C w A xs.length xs
 M := fun w base ok xs cs => ∃ v, cs = [v] ∧ d.R e w base ok v xs
 K_len := by
  rintro w x cs ⟨A, c, rfl, _⟩
  rfl
 K_one := by
  rintro w x cs ⟨A, c, rfl, _⟩ u hu
  rw [List.mem_singleton.1 hu]
  rfl
 K_below := by
  rintro w w1 x cs hb ⟨A, c, rfl, hl, hr⟩
  exact ⟨A, c, rfl, hl, C_below hr hb⟩
 K_of_M := by
  rintro w base ok x cs ⟨v, rfl, h⟩
  obtain ⟨A, c, rfl, hl, hr⟩ := R_reads h
  exact ⟨A, c, rfl, hl, hr⟩
 M_mono := by
  rintro w base ok ok' x cs hok ⟨v, rfl, h⟩
  exact ⟨v, rfl, R_mono h hok⟩
 M_bound := by
  rintro w base ok x cs ⟨v, rfl, h⟩
  exact ⟨v, rfl, R_bound h⟩
 M_move := by
  rintro w w1 base ok x cs hm ⟨v, rfl, h⟩
  exact ⟨v, rfl, R_move h hm⟩
 M_lower := by
  rintro w base base' ok x cs hb ⟨v, rfl, h⟩
  exact ⟨v, rfl, R_lower h hb⟩
def bot {α : Type} (sz : Nat) (E : List Nat) : Kd α where
 sz := sz
 E := E
 K := fun _ _ _ => False
 M := fun _ _ _ _ _ => False
 K_len := fun h => h.elim
 K_one := fun h => h.elim
 K_below := fun _ h => h
 K_of_M := fun h => h
 M_mono := fun _ h => h
 M_bound := fun h => h
 M_move := fun _ h => h
 M_lower := fun _ h => h
def upto {α : Type} (F : Kd α → Kd α) (sz : Nat) (E : List Nat) : Nat → Kd α
 | 0 => bot sz E
 | n + 1 => F (upto F sz E n)
theorem C_get {α : Type} {d : Kd α} {w : World} {A : Option Addr} {n : Nat} {xs : List α} (h : d.C w A n xs) (z : α) (i : Int) (h0 : 0 ≤ i) (h1 : i < n) :
    ∃ ad c, A = some ad ∧ c.length = d.sz ∧ d.K w (xs.getD i.toNat z) c ∧ ∀ j u, c[j]? = some u → w.cell? (ad.add (i.toNat * d.sz + j)) = some u := ReadsRow.get_ h z i h0 h1
theorem R_appended {α : Type} {d : Kd α} {e base : Nat} {ok okp : Nat → Prop} {W w1 : World} {v v1 : Value} {xs : List α} {p : α} {inner cs : List Value} (h0 : ∀ k, v.ownBlock = some k → ok k) (hr : Reps (d.M W base (fun k => ok k ∧ some k ≠ v.ownBlock)) d.sz xs inner) (hp : d.M W base okp p cs) (hokp : ∀ k, okp k → ok k ∧ some k ≠ v.ownBlock) (hfresh : ∀ k, W.heap.size ≤ k → ok k)
  (hown : w1.ownsRow base e d.sz v1 (xs.length + 1) (inner ++ cs)) (hg : W.grownBy w1 v.ownBlock) (hat : v1.ownBlock = v.ownBlock ∨ ∃ b, v1.ownBlock = some b ∧ W.heap.size ≤ b) : d.R e w1 base ok v1 (xs ++ [p]) := by
 have hne : ∀ k, some k ≠ v.ownBlock → k < W.heap.size → some k ≠ v1.ownBlock := by
  intro k hk hlt
  rcases hat with hat | ⟨b, hb, hle⟩
  · rw [hat]; exact hk
  ·
   rw [hb]
   intro he
   injection he with he
   omega
 have step : ∀ {q : α} {c : List Value} {o : Nat → Prop}, d.M W base o q c → (∀ k, o k → ok k ∧ some k ≠ v.ownBlock) → d.M w1 base (fun k => ok k ∧ some k ≠ v1.ownBlock) q c := by
  intro q c o hq ho
  have h1 := d.M_move (w1 := w1) (fun k hk => hg.block k hk.2.2.1 (ho k hk.1).2) (d.M_bound hq)
  exact d.M_mono (fun k hk => ⟨(ho k hk.1).1, hne k (ho k hk.1).2 hk.2.2.1⟩) h1
 refine ⟨fun k hk => ?_, inner ++ cs, by rw [List.length_append, List.length_singleton]; exact hown, ?_⟩
 ·
  rcases hat with hat | ⟨b, hb, hle⟩
  · exact h0 k (hat ▸ hk)
  ·
   rw [hb] at hk
   injection hk with hk
   exact hfresh k (by omega)
 · exact (hr.imp_ (fun _ _ hq => step hq (fun _ hk => hk))).snoc (step hp hokp) (d.K_len (d.K_of_M hp))
section
variable {P : Program} {ops : Array Oper} {rest : List Oper} {o : Oper} {a : Act} {Q : Exit → Act → World → Prop} {α : Type}
theorem R_append (d : Kd α) {w0 W : World} (base : Nat) (hgd : o.guard = none) (s x : Operand) (t e : TypeId) (z : Value) (bytes : Nat)
  (ho : o.op = .call { callee := .builtin .append, args := #[s, x], argTypes := #[t, t] })
  (ht : P.underlying t = some (.slice e)) (hinfo : (P.info? e).map (fun i => (i.zero, i.size, i.bytes)) = some (some z, d.sz, bytes)) (hz : z.cells.size = d.sz) (hs0 : 0 < d.sz) (hb0 : 0 < bytes)
  (v : Value) (xs : List α) (p : α) (cs : List Value) (ok okp : Nat → Prop) (hs : a.eval s = v) (hx : a.eval x = .slice (some ⟨W.heap.size, 0, none⟩) 1 1) (hp : d.M W base okp p cs) (hokp : ∀ k, okp k → ok k ∧ some k ≠ v.ownBlock) (hfresh : ∀ k, W.heap.size ≤ k → ok k)
  (HO : d.R e W base ok v xs) (HB : Below base w0 W) (hbase : base ≤ W.heap.size) (hl : (xs.length + 1) * bytes ≤ 140737488355328)
  (h : ∀ v1 w1, d.R e w1 base ok v1 (xs ++ [p]) → Below base w0 w1 → W.grownBy w1 v.ownBlock → (v1.ownBlock = v.ownBlock ∨ ∃ b, v1.ownBlock = some b ∧ W.heap.size ≤ b) → wpList P ops Q rest (a.put o.dst v1) w1) :
  wpList P ops Q (o :: rest) a (W.alloc (.cells cs.toArray e)) := by
 obtain ⟨h0, inner, hown, hr⟩ := HO
 refine print_append_cells base hgd s x t e z d.sz bytes ho ht hinfo hz hs0 hb0 v xs.length inner cs hs hx (d.K_len (d.K_of_M hp)) (d.K_one (d.K_of_M hp)) hown HB hbase hl ?_
 intro v1 w1 hown1 hb1 hg1 hat1
 exact h v1 w1 (R_appended h0 hr hp hokp hfresh hown1 hg1 hat1) hb1 hg1 hat1
end
section
variable {P : Program} {ops : Array Oper} {o : Oper} {a : Act} {Q : Exit → Act → World → Prop} {Kc : Act → World → Prop} {α : Type}
theorem R_append_step (d : Kd α) {w0 W : World} (base : Nat) (hw : Region.wanted o (yielded ops a.tmps) = true) (s x : Operand) (t e : TypeId) (z : Value) (bytes : Nat)
  (ho : o.op = .call { callee := .builtin .append, args := #[s, x], argTypes := #[t, t] })
  (ht : P.underlying t = some (.slice e)) (hinfo : (P.info? e).map (fun i => (i.zero, i.size, i.bytes)) = some (some z, d.sz, bytes)) (hz : z.cells.size = d.sz) (hs0 : 0 < d.sz) (hb0 : 0 < bytes)
  (v : Value) (xs : List α) (p : α) (cs : List Value) (ok okp : Nat → Prop) (hs : a.eval s = v) (hx : a.eval x = .slice (some ⟨W.heap.size, 0, none⟩) 1 1) (hp : d.M W base okp p cs) (hokp : ∀ k, okp k → ok k ∧ some k ≠ v.ownBlock) (hfresh : ∀ k, W.heap.size ≤ k → ok k)
  (HO : d.R e W base ok v xs) (HB : Below base w0 W) (hbase : base ≤ W.heap.size) (hl : (xs.length + 1) * bytes ≤ 140737488355328)
  (h : ∀ v1 w1, d.R e w1 base ok v1 (xs ++ [p]) → Below base w0 w1 → W.grownBy w1 v.ownBlock → (v1.ownBlock = v.ownBlock ∨ ∃ b, v1.ownBlock = some b ∧ W.heap.size ≤ b) → Kc (a.put o.dst v1) w1) :
  if Region.wanted o (yielded ops a.tmps) = true then Oper.wp P o a (W.alloc (.cells cs.toArray e)) Kc Q else Kc (a.put o.dst undef) (W.alloc (.cells cs.toArray e)) := by
 obtain ⟨h0, inner, hown, hr⟩ := HO
 refine step_append_cells base hw s x t e z d.sz bytes ho ht hinfo hz hs0 hb0 v xs.length inner cs hs hx (d.K_len (d.K_of_M hp)) (d.K_one (d.K_of_M hp)) hown HB hbase hl ?_
 intro v1 w1 hown1 hb1 hg1 hat1
 exact h v1 w1 (R_appended h0 hr hp hokp hfresh hown1 hg1 hat1) hb1 hg1 hat1
end
theorem reps_scalar {α : Type} {enc : α → Value} (xs : List α) : Reps (fun (x : α) (cs : List Value) => cs = [enc x]) 1 xs (encs enc xs) := by
 refine ⟨by simp [encs], fun j p hj => ?_⟩
 obtain ⟨hl, hp⟩ := List.getElem?_eq_some_iff.1 hj
 have hl' : j < (encs enc xs).length := by rw [encs_length]; exact hl
 rw [Nat.mul_one, List.drop_eq_getElem_cons hl']
 simp [encs, hp]
theorem R_of_own {α : Type} {enc : α → Value} {h1 : ∀ x, (enc x).oneCell' = true} {e : Nat} {w : World} {base : Nat} {ok : Nat → Prop} {v : Value} {xs : List α} (ho : w.ownsRow base e 1 v xs.length (encs enc xs)) (hok : ∀ k, v.ownBlock = some k → ok k) : (scalar enc h1).R e w base ok v xs := ⟨hok, encs enc xs, ho, reps_scalar xs⟩
theorem own_of_R {α : Type} {enc : α → Value} {h1 : ∀ x, (enc x).oneCell' = true} {e : Nat} {w : World} {base : Nat} {ok : Nat → Prop} {v : Value} {xs : List α} (h : (scalar enc h1).R e w base ok v xs) : w.ownsRow base e 1 v xs.length (encs enc xs) := by
 obtain ⟨_, inner, ho, hr⟩ := h
 have : inner = encs enc xs := by
  apply List.ext_getElem?
  intro j
  rcases Nat.lt_or_ge j xs.length with hj | hj
  ·
   have h2 := hr.2 j _ (List.getElem?_eq_getElem hj)
   have hl : j < inner.length := by have := hr.1; simp [scalar] at this; omega
   have h3 : (inner.drop (j * 1)).take 1 = [enc xs[j]] := h2
   rw [Nat.mul_one, List.drop_eq_getElem_cons hl] at h3
   have h4 : inner[j] = enc xs[j] := by
    have h5 := congrArg List.head? h3
    rw [List.take_succ_cons] at h5
    exact Option.some.inj h5
   rw [List.getElem?_eq_getElem hl, h4]
   simp [encs, List.getElem?_eq_getElem hj]
  ·
   have h3 : inner.length = xs.length := by have := hr.1; simp [scalar] at this; omega
   rw [List.getElem?_eq_none (by omega), List.getElem?_eq_none (by rw [encs_length]; omega)]
 rw [← this]
 exact ho
theorem C_of_reads {α : Type} {enc : α → Value} {d : α} {h1 : ∀ x, (enc x).oneCell' = true} {w : World} {A : Option Addr} {n : Nat} {xs : List α} (h : ReadsOf enc d w A n xs) : (scalar enc h1).C w A n xs := by
 refine ⟨h.1, h.2.1, fun hn => ?_⟩
 obtain ⟨ad, e, hc⟩ := h.2.2 hn
 refine ⟨ad, e, fun j p hj => ⟨[enc p], rfl, rfl, fun i u hu => ?_⟩⟩
 obtain ⟨hl, hp⟩ := List.getElem?_eq_some_iff.1 hj
 have h2 := hc j (by have := h.1; omega)
 rw [List.getD_eq_getElem?_getD, hj] at h2
 cases i with
 | zero =>
  have : enc p = u := by simpa using hu
  subst this
  simpa [scalar] using h2
 | succ i => simp at hu
theorem reads_of_C {α : Type} {enc : α → Value} {d : α} {h1 : ∀ x, (enc x).oneCell' = true} {w : World} {A : Option Addr} {n : Nat} {xs : List α} (h : (scalar enc h1).C w A n xs) : ReadsOf enc d w A n xs := by
 refine ⟨h.1, h.2.1, fun hn => ?_⟩
 obtain ⟨ad, e, hc⟩ := h.2.2 hn
 refine ⟨ad, e, fun j hj => ?_⟩
 have hl : j < xs.length := by have := h.1; omega
 obtain ⟨c, _, hK, hcell⟩ := hc j _ (List.getElem?_eq_getElem hl)
 have hK' : c = [enc xs[j]] := hK
 subst hK'
 have := hcell 0 _ rfl
 simpa [scalar, List.getD_eq_getElem?_getD, List.getElem?_eq_getElem hl] using this
end Kd
namespace Kd
structure Mono {α β : Type} (F : Kd α → Kd β) : Prop where
 sz : ∀ d d' : Kd α, d.sz = d'.sz → (F d).sz = (F d').sz
 K : ∀ d d' : Kd α, d.sz = d'.sz → (∀ w x cs, d.K w x cs → d'.K w x cs) → ∀ w x cs, (F d).K w x cs → (F d').K w x cs
 M : ∀ d d' : Kd α, d.sz = d'.sz → (∀ w base ok x cs, d.M w base ok x cs → d'.M w base ok x cs) → ∀ w base ok x cs, (F d).M w base ok x cs → (F d').M w base ok x cs
section
variable {α : Type} {F : Kd α → Kd α} {sz : Nat} {E : List Nat} {hs : ∀ n, (upto F sz E n).sz = sz} {hE : ∀ n q, q ∈ (upto F sz E n).E → q ∈ E}
end
end Kd
namespace Kd
end Kd
namespace Kd
section
variable {α β : Type} {d : Kd α} {d' : Kd β} {e e' : Nat} {w w1 W : World} {base b b' : Nat} {ok ok' okv oku : Nat → Prop} {v u : Value} {xs : List α} {ys : List β}
theorem R_reads' {A : Option Addr} {n c : Nat} (h : d.R e w base ok (.slice A n c) xs) : n = xs.length ∧ n ≤ c ∧ d.C w A xs.length xs := by
 obtain ⟨A', c', he, hl, hr⟩ := R_reads h
 injection he with h1 h2 h3
 subst h1
 exact ⟨h2, by omega, hr⟩
end
section
variable {w W : World} {A : Option Addr} {n : Nat}
theorem at_int {k : IntKind} {xs : List Int} (h : (Kd.int k).C w A n xs) (i : Int) (h0 : 0 ≤ i) (h1 : i < n) : ∃ ad, A = some ad ∧ w.cell? (ad.add i.toNat) = some (.int k (rd xs i)) :=
  ReadsOf.at_ (reads_of_C (enc := Value.int k) (d := (0 : Int)) (h1 := fun _ => rfl) h) i h0 h1
variable {α : Type} {enc : α → Value} {h1 : ∀ x, (enc x).oneCell' = true} {e base g cap : Nat} {ok : Nat → Prop} {xs : List α}
theorem R_put (h : (scalar enc h1).R e W base ok (.slice (some ⟨g, 0, none⟩) xs.length cap) xs) (i : Int) (x : α) : (scalar enc h1).R e (W.setCell ⟨g, i.toNat, none⟩ (enc x)) base ok (.slice (some ⟨g, 0, none⟩) xs.length cap) (xs.set i.toNat x) ∧ W.grownBy (W.setCell ⟨g, i.toNat, none⟩ (enc x)) (some g) := by
 obtain ⟨ho, hg⟩ := own_store_of (own_of_R h) i x
 exact ⟨R_of_own (by rw [List.length_set]; exact ho) h.1, hg⟩
end
section
variable {P : Program} {ops : Array Oper} {rest : List Oper} {o : Oper} {a : Act} {Q : Exit → Act → World → Prop}
variable {α : Type}
end
end Kd
section
variable {P : Program}
end
def QRow (w : World) (base : Nat) (e : TypeId) (size : Nat) (v : Value) (n : Nat) (xs : List Value) : Prop :=
  xs.length = n * size ∧
  ((n = 0 ∧ ∃ A, v = .slice A 0 0 ∧ ∀ a, A = some a → base ≤ a.block ∧ ∃ cur, w.heap[a.block]? = some (.cells cur e (0, 0))) ∨
   ∃ g off cap cur, v = .slice (some ⟨g, off * size, none⟩) n cap ∧ base ≤ g ∧ w.heap[g]? = some (.cells cur e (0, 0)) ∧ n ≤ cap ∧ off + cap ≤ maxLen ∧ cur.size = (off + cap) * size ∧ (cur.toList.drop (off * size)).take (n * size) = xs)
section
variable {w w1 : World} {base n size : Nat} {e : TypeId} {v : Value} {xs : List Value}
theorem setCells_far {g : Nat} : ∀ (vs : List Value) (o : Nat) {w : World} (k : Nat), k ≠ g → (w.setCells g o vs).heap[k]? = w.heap[k]?
 | [], _, _, _, _ => rfl
 | v :: r, o, w, k, hk => by
  rw [World.setCells, setCells_far r (o + 1) k hk]
  exact Below.heap_setCell w ⟨g, o, none⟩ v k hk
theorem setCells_same (g : Nat) : ∀ (vs : List Value) (o : Nat) (w : World), (w.setCells g o vs).os = w.os ∧ (w.setCells g o vs).tape = w.tape ∧ (w.setCells g o vs).output = w.output ∧ (w.setCells g o vs).heap.size = w.heap.size
 | [], _, _ => ⟨rfl, rfl, rfl, rfl⟩
 | v :: r, o, w => by
  obtain ⟨h1, h2, h3, h4⟩ := setCells_same g r (o + 1) (w.setCell ⟨g, o, none⟩ v)
  rw [World.setCells]
  exact ⟨h1, h2, h3, by rw [h4]; simp [World.setCell]⟩
theorem setCells_row {g : Nat} {e : TypeId} : ∀ (vs : List Value) (o : Nat) (w : World) (cur : Array Value), w.heap[g]? = some (.cells cur e (0, 0)) → o + vs.length ≤ cur.size →
  ∃ cur', (w.setCells g o vs).heap[g]? = some (.cells cur' e (0, 0)) ∧ cur'.size = cur.size ∧ cur'.toList = cur.toList.take o ++ vs ++ cur.toList.drop (o + vs.length)
 | [], o, w, cur, h, _ => ⟨cur, h, rfl, by simp⟩
 | v :: r, o, w, cur, h, hl => by
  have h2 := blk_set h o v
  simp only [List.length_cons] at hl
  obtain ⟨cur', h3, h4, h5⟩ := setCells_row r (o + 1) (w.setCell ⟨g, o, none⟩ v) _ h2 (by simp; omega)
  refine ⟨cur', h3, by rw [h4]; simp, ?_⟩
  rw [h5, Array.toList_setIfInBounds]
  have ho : o < cur.toList.length := by rw [Array.length_toList]; omega
  rw [List.take_set, List.drop_set_of_lt (by omega)]
  simp only [List.length_cons]
  rw [show o + 1 + r.length = o + (r.length + 1) by omega]
  congr 1
  rw [List.take_succ_eq_append_getElem ho, List.set_append_right _ _ (by rw [List.length_take]; omega)]
  have ho' : o < cur.size := by omega
  simp [Nat.min_eq_left (Nat.le_of_lt ho')]
end
section
variable {P : Program}
end
namespace Kd
def Q {α : Type} (d : Kd α) (e : Nat) (w : World) (base : Nat) (ok : Nat → Prop) (v : Value) (xs : List α) : Prop :=
  (∀ k, v.ownBlock = some k → ok k) ∧ ∃ inner, QRow w base e d.sz v xs.length inner ∧ Reps (d.M w base (fun k => ok k ∧ some k ≠ v.ownBlock)) d.sz xs inner
section
variable {α : Type} {d : Kd α} {e : Nat} {w w1 W : World} {base : Nat} {ok ok' : Nat → Prop} {v : Value} {xs : List α}
end
section
variable {P : Program} {ops : Array Oper} {rest : List Oper} {o : Oper} {a : Act} {Q' : Exit → Act → World → Prop} {Kc : Act → World → Prop} {α : Type}
end
end Kd
namespace Kd
section
variable {α : Type} {d : Kd α} {e e' : Nat} {w w1 W : World} {base : Nat} {ok : Nat → Prop} {u v : Value} {xs : List α}
theorem R_typed (h : d.R e w base ok v xs) : ∀ k, v.ownBlock = some k → ∃ cells, w.heap[k]? = some (.cells cells e (0, 0)) := by
 obtain ⟨inner, ho⟩ := R_own h
 exact fun k hk => own_typed ho k hk
end
end Kd
namespace Kd
section
variable {α : Type} {d : Kd α} {e base g n cap : Nat} {ok okp : Nat → Prop} {W : World} {xs : List α}
end
end Kd
namespace Kd
section
variable {α : Type} {F : Kd α → Kd α} {sz : Nat} {E : List Nat} {hs : ∀ n, (upto F sz E n).sz = sz} {hE : ∀ n q, q ∈ (upto F sz E n).E → q ∈ E}
end
end Kd
namespace Kd
theorem reps_append {α : Type} {R : α → List Value → Prop} {size : Nat} {ps qs : List α} {cs ds : List Value} (h : Reps R size ps cs) (h' : Reps R size qs ds) : Reps R size (ps ++ qs) (cs ++ ds) := by
 refine ⟨by rw [List.length_append, List.length_append, h.1, h'.1, Nat.add_mul], fun j p hj => ?_⟩
 rcases Nat.lt_or_ge j ps.length with hlt | hge
 ·
  rw [List.getElem?_append_left hlt] at hj
  have hle : j * size + size ≤ cs.length := by rw [h.1, ← Nat.succ_mul]; exact Nat.mul_le_mul_right _ hlt
  rw [List.drop_append_of_le_length (by omega), List.take_append_of_le_length (by rw [List.length_drop]; omega)]
  exact h.2 j p hj
 ·
  rw [List.getElem?_append_right hge] at hj
  have h2 := h'.2 (j - ps.length) p hj
  have hle : ps.length * size ≤ j * size := Nat.mul_le_mul_right _ hge
  rw [List.drop_append, List.drop_eq_nil_of_le (by rw [h.1]; exact hle), List.nil_append, h.1, ← Nat.sub_mul]
  exact h2
section
variable {P : Program} {ops : Array Oper} {rest : List Oper} {o : Oper} {a : Act} {Q : Exit → Act → World → Prop} {α : Type}
theorem R_append_rows (d : Kd α) {Rr : α → List Value → Prop} {w0 W : World} (base : Nat) (hgd : o.guard = none) (s x : Operand) (t e : TypeId) (z : Value) (bytes : Nat)
  (ho : o.op = .call { callee := .builtin .append, args := #[s, x], argTypes := #[t, t] })
  (ht : P.underlying t = some (.slice e)) (hinfo : (P.info? e).map (fun i => (i.zero, i.size, i.bytes)) = some (some z, d.sz, bytes)) (hz : z.cells.size = d.sz) (hs0 : 0 < d.sz) (hb0 : 0 < bytes)
  (v : Value) (xs ys : List α) (A : Option Addr) (m c : Nat) (ok okp : Nat → Prop) (hs : a.eval s = v) (hx : a.eval x = .slice A m c)
  (HO : d.R e W base ok v xs) (HR : ReadsRow Rr d.sz W A m ys) (hKM : ∀ x cs, Rr x cs → d.M W base okp x cs) (hokp : ∀ k, okp k → ok k ∧ some k ≠ v.ownBlock) (hfresh : ∀ k, W.heap.size ≤ k → ok k)
  (HB : Below base w0 W) (hbase : base ≤ W.heap.size) (hl : (xs.length + m) * bytes ≤ 140737488355328)
  (h : ∀ v1 w1, d.R e w1 base ok v1 (xs ++ ys) → Below base w0 w1 → W.grownBy w1 v.ownBlock → (v1.ownBlock = v.ownBlock ∨ ∃ b, v1.ownBlock = some b ∧ W.heap.size ≤ b) → wpList P ops Q rest (a.put o.dst v1) w1) :
  wpList P ops Q (o :: rest) a W := by
 obtain ⟨i0, hi, hzz⟩ := Option.map_eq_some_iff.1 hinfo
 simp only [Prod.mk.injEq] at hzz
 obtain ⟨hz0, hz1, hz2⟩ := hzz
 have hm : ys.length = m := HR.1
 have hlen : xs.length + m ≤ 140737488355328 := Nat.le_trans (Nat.le_mul_of_pos_right _ hb0) hl
 obtain ⟨hok, inner, hown, hr⟩ := HO
 have hrun : ∃ v1 w1, (Builtin.append_ #[t, t] o.type #[v, .slice A m c]).run P W = .ok v1 w1 ∧ d.R e w1 base ok v1 (xs ++ ys) ∧ W.grownBy w1 v.ownBlock ∧ (v1.ownBlock = v.ownBlock ∨ ∃ b, v1.ownBlock = some b ∧ W.heap.size ≤ b) := by
  rcases A with _ | ad
  ·
   have h0 : m = 0 := by
    rcases Nat.eq_zero_or_pos m with h0 | h0
    · exact h0
    ·
     obtain ⟨ad, h, _⟩ := HR.2.2 h0
     cases h
   subst h0
   obtain rfl : ys = [] := List.eq_nil_of_length_eq_zero hm
   refine ⟨v, W, ?_, by rw [List.append_nil]; exact ⟨hok, inner, hown, hr⟩, World.grownBy.refl W _, .inl rfl⟩
   rcases hown.2 with ⟨rfl, hn⟩ | ⟨g, cap, cur, rfl, _, _, hnc, _⟩
   · simp [Builtin.append_, run_underlying ht, sizeOf, typeInfo, hi, Builtin.lenOf, Builtin.firstCells]
   · simp [Builtin.append_, run_underlying ht, sizeOf, typeInfo, hi, Builtin.lenOf, Builtin.firstCells, hnc, storeCells]
  ·
   obtain ⟨news, hnr, hnc⟩ := ReadsRow.inner_ HR
   have hnM : Reps (d.M W base okp) d.sz ys news := hnr.imp_ (fun p c hp => hKM p c hp)
   have hone : ∀ u ∈ news, u.oneCell' = true := by
    intro u hu
    obtain ⟨q, hq, rfl⟩ := List.mem_iff_getElem.1 hu
    have hql : q / d.sz < ys.length := by
     rw [Nat.div_lt_iff_lt_mul hs0]
     rw [← hnM.1]
     exact hq
    have hc := hnM.2 (q / d.sz) _ (List.getElem?_eq_getElem hql)
    refine d.K_one (d.K_of_M hc) _ ?_
    rw [List.mem_iff_getElem?]
    refine ⟨q % d.sz, ?_⟩
    rw [List.getElem?_take, if_pos (Nat.mod_lt _ hs0), List.getElem?_drop, Nat.mul_comm, Nat.div_add_mod, List.getElem?_eq_getElem hq]
   obtain ⟨v1, w1, hrun, h2, hg, _, hat⟩ := run_append_own_at (P := P) W base t o.type e i0 z d.sz bytes ht hi hz0 hz1 hz2 hz hs0 v xs.length inner hown ad m c news (by rw [hnM.1, hm]) hnc hone (by simp only [maxLen]; omega) hl hbase
   have hat' : v1.ownBlock = v.ownBlock ∨ ∃ b, v1.ownBlock = some b ∧ W.heap.size ≤ b := by
    rcases hat with hat | hat
    · exact .inl hat
    · exact .inr ⟨_, hat, Nat.le_refl _⟩
   have hne : ∀ k, some k ≠ v.ownBlock → k < W.heap.size → some k ≠ v1.ownBlock := by
    intro k hk hlt
    rcases hat' with hat | ⟨b, hb, hle⟩
    · rw [hat]; exact hk
    ·
     rw [hb]
     intro he
     injection he with he
     omega
   have step : ∀ {q : α} {c : List Value} {o : Nat → Prop}, d.M W base o q c → (∀ k, o k → ok k ∧ some k ≠ v.ownBlock) → d.M w1 base (fun k => ok k ∧ some k ≠ v1.ownBlock) q c := by
    intro q c o hq ho
    have h1 := d.M_move (w1 := w1) (fun k hk => hg.block k hk.2.2.1 (ho k hk.1).2) (d.M_bound hq)
    exact d.M_mono (fun k hk => ⟨(ho k hk.1).1, hne k (ho k hk.1).2 hk.2.2.1⟩) h1
   refine ⟨v1, w1, hrun, ⟨fun k hk => ?_, inner ++ news, by rw [List.length_append, hm]; exact h2, reps_append (hr.imp_ (fun _ _ hq => step hq (fun _ hk => hk))) (hnM.imp_ (fun _ _ hq => step hq hokp))⟩, hg, hat'⟩
   rcases hat' with hat | ⟨b, hb, hle⟩
   · exact hok k (hat ▸ hk)
   ·
    rw [hb] at hk
    injection hk with hk
    exact hfresh k (by omega)
 obtain ⟨v1, w1, hr1, h1, hg, hat⟩ := hrun
 refine wpList_plain hgd fun K hK => ?_
 unfold Oper.wp execOp
 simp only [ho, resolve, invoke, builtin, Sem.run_bind, Sem.run_pure, Result.andThen_ok, List.map_toArray, List.map_cons, List.map_nil, hs, hx, hr1]
 exact hK _ _ (h v1 w1 h1 (HB.grown hg hbase (own_base hown)) hg hat)
end
end Kd
namespace Kd
section
variable {P : Program} {ops : Array Oper} {rest : List Oper} {o : Oper} {a : Act} {Q : Exit → Act → World → Prop} {α : Type}
end
end Kd
theorem add_add (a : Addr) (i j : Nat) : (a.add i).add j = a.add (i + j) := by
 unfold Addr.add
 by_cases h1 : i = 0 <;> by_cases h2 : j = 0 <;> simp [h1, h2, Nat.add_assoc]
namespace Kd
section
variable {α : Type} {k : Kd α} {w : World} {A : Option Addr} {xs : List α} {m c : Nat}
end
end Kd
section
variable {P : Program}
end
theorem string_of_reads {P : Program} {w : World} {src dst e : TypeId} {A : Option Addr} {n c : Nat} {xs : List Int} (hs : P.underlying src = some (.slice e)) (he : P.underlying e = some (.int .u8)) (hd : P.underlying dst = some .string)
  (h : ReadsInt w .u8 A n xs) : (convert src dst (.slice A n c)).run P w = .ok (.string (strOfNums xs)) w := by
 have hn : xs.length = n := h.1
 rcases A with _ | ad
 ·
  have h0 : n = 0 := by
   rcases Nat.eq_zero_or_pos n with h0 | h0
   · exact h0
   ·
    obtain ⟨ad, h', _⟩ := h.2.2 h0
    cases h'
  subst h0
  obtain rfl : xs = [] := List.eq_nil_of_length_eq_zero hn
  exact run_convert_bytes_nil w src e hs he 0 c dst hd
 ·
  have hl : (loadCells ad n).run P w = .ok (xs.map (Value.int .u8)).toArray w := by
   have := run_loadCells_list (P := P) w ad (xs.map (Value.int .u8)) (fun j v hj => by
    have hjl : j < xs.length := by
     rcases Nat.lt_or_ge j xs.length with h' | h'
     · exact h'
     ·
      rw [List.getElem?_eq_none (by rw [List.length_map]; exact h')] at hj
      cases hj
    obtain ⟨ad', he', hc⟩ := h.2.2 (by omega)
    injection he' with he'
    subst he'
    rw [hc j (by omega)]
    rw [List.getElem?_map, List.getElem?_eq_getElem hjl] at hj
    simp at hj
    subst hj
    simp [List.getD_eq_getElem?_getD, List.getElem?_eq_getElem hjl])
   simpa [hn] using this
  rw [run_convert_bytes_string w src dst e _ n c hs he hd, run_bytesToString w ad n c xs hl, foldl_push_bytes]
  simp [strOfNums, ByteArray.empty, ByteArray.emptyWithCapacity]
  rfl
theorem Kd.C_string {P : Program} {w : World} {src dst e : TypeId} {A : Option Addr} {n c : Nat} {xs : List Int} (hs : P.underlying src = some (.slice e)) (he : P.underlying e = some (.int .u8)) (hd : P.underlying dst = some .string)
  (h : (Kd.int .u8).C w A n xs) : (convert src dst (.slice A n c)).run P w = .ok (.string (strOfNums xs)) w :=
 string_of_reads hs he hd (Kd.reads_of_C (enc := Value.int .u8) (d := (0 : Int)) (h1 := fun _ => rfl) h)
theorem ReadsInt.nil (W : World) (k : IntKind) : ReadsInt W k none ([] : List Int).length [] := ⟨rfl, by simp, fun h => absurd h (Nat.lt_irrefl 0)⟩
theorem ReadsInt.drewN {W : World} {k : IntKind} {A : Option Addr} {n : Nat} {xs : List Int} (h : ReadsInt W k A n xs) (m : Nat) : ReadsInt (W.drewN m) k A n xs := h
theorem ReadsOf.nil {α : Type} (enc : α → Value) (d : α) (W : World) : ReadsOf enc d W none ([] : List α).length [] := ⟨rfl, by simp, fun h => absurd h (Nat.lt_irrefl 0)⟩
theorem ReadsOf.drewN {α : Type} {enc : α → Value} {d : α} {W : World} {A : Option Addr} {n : Nat} {xs : List α} (h : ReadsOf enc d W A n xs) (m : Nat) : ReadsOf enc d (W.drewN m) A n xs := h
theorem own_made' (W : World) (base : Nat) (e : TypeId) (k : IntKind) (m : Nat) (hb : base ≤ W.heap.size) (hm : m ≤ 9223372036854775807) :
  (W.alloc (.cells (madeCells #[.int k 0] m) e)).ownsRow base e 1 (.slice (some ⟨W.heap.size, 0, none⟩) m m) (List.replicate m (0 : Int)).length (nums k (List.replicate m 0)) := by
 have h := own_made W base e k m hb hm
 rwa [show (List.replicate m (0 : Int)).length = m by simp]
namespace Kd
section
variable {α β : Type} {d : Kd α} {d' : Kd β} {e e' base base' n : Nat} {ok ok' : Nat → Prop} {w W w1 W1 : World} {v u : Value} {xs : List α} {ys : List β} {A : Option Addr} {c : Nat}
end
section
variable {α : Type} {enc : α → Value} {h1 : ∀ x, (enc x).oneCell' = true} {w W : World} {A : Option Addr} {n g : Nat} {xs : List α}
end
end Kd
namespace Kd
section
variable {α : Type} {d : Kd α} {e base g : Nat} {ok : Nat → Prop} {w w1 : World} {v : Value} {xs : List α} {o : Obj}
end
end Kd
section
variable {P : Program} {ops : Array Oper} {rest : List Oper} {o : Oper} {a : Act} {Q : Exit → Act → World → Prop}
end
namespace Kd
section
variable {α : Type} {enc : α → Value} {h1 : ∀ x, (enc x).oneCell' = true} {e base g n cap : Nat} {ok : Nat → Prop} {W : World} {xs : List α}
end
end Kd
section
variable {P : Program} {ops : Array Oper} {rest : List Oper} {o : Oper} {a : Act} {Q : Exit → Act → World → Prop}
end
namespace Kd
section
variable {α : Type} {enc : α → Value} {h1 : ∀ x, (enc x).oneCell' = true} {e base g n cap : Nat} {ok : Nat → Prop} {W : World} {xs : List α}
theorem R_putg (h : (scalar enc h1).R e W base ok (.slice (some ⟨g, 0, none⟩) n cap) xs) (i : Int) (x : α) : (scalar enc h1).R e (W.setCell ⟨g, i.toNat, none⟩ (enc x)) base ok (.slice (some ⟨g, 0, none⟩) n cap) (xs.set i.toNat x) ∧ W.grownBy (W.setCell ⟨g, i.toNat, none⟩ (enc x)) (some g) := by
 obtain ⟨rfl, _⟩ := R_reads' h
 exact R_put h i x
end
end Kd
section
variable {P : Program} {ops : Array Oper} {rest : List Oper} {o : Oper} {a : Act} {Q : Exit → Act → World → Prop} {W : World}
end
section
variable {P : Program} {ops : Array Oper} {o : Oper} {a : Act} {Q : Exit → Act → World → Prop} {Kc : Act → World → Prop}
namespace Kd
variable {α : Type}
end Kd
end
inductive Vals (P : Program) (tmps : Array Value) (w : World) : List ResultVar → List Value → Prop where
 | nil : Vals P tmps w [] []
 | tmp {u : Tmp} {rs : List ResultVar} {vs : List Value} (h : Vals P tmps w rs vs) : Vals P tmps w (.tmp u :: rs) (tmps.getD u undef :: vs)
 | cell {p : Tmp} {ty : TypeId} {rs : List ResultVar} {vs : List Value} (g : Nat) (t : TypeId) (cs : Array Value) (fr : Nat × Nat) (d : TypeDesc)
  (hp : tmps.getD p undef = .pointer (some ⟨g, 0, none⟩)) (hg : w.heap[g]? = some (.cells cs t fr))
  (hu : P.underlying ty = some d) (hd : (match d with | .struct _ | .array _ _ => true | _ => false) = true) (hi : (P.info? ty).map (·.size) = some cs.size)
  (h : Vals P tmps w rs vs) : Vals P tmps w (.cell p ty :: rs) (.agg cs :: vs)
section
variable {P : Program} {tmps : Array Value} {w : World}
end
namespace Kd
section
variable {P : Program} {α : Type}
end
section
variable {P : Program} {ops : Array Oper} {rest : List Oper} {o : Oper} {a : Act} {Q : Exit → Act → World → Prop} {Kc : Act → World → Prop} {α : Type}
end
end Kd
end Go.Proofs.YtmofiicjaldmiaaGreatDoorW.PrintWords
end
section
namespace Go.Proofs.YtmofiicjaldmiaaGreatDoorW.PrintLast
section
variable {P : Program} {ops : Array Oper} {Q : Exit → Act → World → Prop} {md : Region.Mode} {S : World → Prop} {ds : List Nat}
def Region.reachB (md : Region.Mode) (ops : Array Oper) (i : Nat) : Nat → Nat → Bool
 | 0, _ => false
 | fuel + 1, d => match ops[d]? with
  | some o => o.after.any fun e => Region.binds md e && (e.on == i || Region.reachB md ops i fuel e.on)
  | none => false
def Region.closedB (md : Region.Mode) (ops : Array Oper) (listed : Array Bool) : Bool :=
  (List.range ops.size).all fun j => !listed.getD j false || match ops[j]? with
    | some o => o.after.all fun e => !Region.binds md e || listed.getD e.on false
    | none => true
def Region.lastB (md : Region.Mode) (ops : Array Oper) (listed : Array Bool) (ds : List Nat) (i : Nat) : Bool :=
  ds.all fun d => listed.getD d true || Region.reachB md ops i ops.size d
def ListedClosed (md : Region.Mode) (ops : Array Oper) (listed : Array Bool) : Prop :=
  ∀ j oj, ops[j]? = some oj → listed.getD j false = true → ∀ e ∈ oj.after, Region.binds md e = true → listed.getD e.on false = true
theorem Region.closedB_spec {listed : Array Bool} (h : Region.closedB md ops listed = true) : ListedClosed md ops listed := by
 intro j oj hj hl e he hb
 have hlt : j < ops.size := (Array.getElem?_eq_some_iff.1 hj).1
 have h1 := List.all_eq_true.1 h j (List.mem_range.2 hlt)
 simp only [hl, hj, Bool.not_true, Bool.false_or] at h1
 have h2 := Array.all_eq_true_iff_forall_mem.1 h1 e he
 simpa [hb] using h2
theorem ListedClosed.set {listed : Array Bool} {i : Nat} (h : ListedClosed md ops listed) (hi : i ∈ Region.ready md ops listed) : ListedClosed md ops (listed.setIfInBounds i true) := by
 obtain ⟨_, oi, hoi, hall⟩ := mem_ready.1 hi
 intro j oj hj hl e he hb
 by_cases hij : i = j
 ·
  subst hij
  have : oj = oi := Option.some.inj (hj.symm.trans hoi)
  subst this
  exact getD_set_true (hall e he hb)
 ·
  rw [getD_set_ne false hij] at hl
  exact getD_set_true (h j oj hj hl e he hb)
theorem Region.reach_listed {listed : Array Bool} {i : Nat} (hc : ListedClosed md ops listed) : ∀ (fuel d : Nat), Region.reachB md ops i fuel d = true → listed.getD d false = true → listed.getD i false = true
 | 0, _, h, _ => by simp [Region.reachB] at h
 | fuel + 1, d, h, hl => by
  unfold Region.reachB at h
  cases ho : ops[d]? with
  | none => rw [ho] at h; simp at h
  | some o =>
   rw [ho] at h
   obtain ⟨e, he, h1⟩ := Array.any_eq_true'.1 h
   simp only [Bool.and_eq_true, Bool.or_eq_true, beq_iff_eq] at h1
   have hle := hc d o ho hl e he h1.1
   rcases h1.2 with h2 | h2
   · rw [← h2]; exact hle
   · exact Region.reach_listed hc fuel e.on h2 hle
theorem Region.reach_not_ready {listed : Array Bool} {i d fuel : Nat} (hc : ListedClosed md ops listed) (hr : Region.reachB md ops i fuel d = true) (hun : listed.getD i true = false) : d ∉ Region.ready md ops listed := by
 intro hd
 obtain ⟨_, o, ho, hall⟩ := mem_ready.1 hd
 have hi : listed.getD i false = true := by
  cases fuel with
  | zero => simp [Region.reachB] at hr
  | succ n =>
   unfold Region.reachB at hr
   rw [ho] at hr
   obtain ⟨e, he, h1⟩ := Array.any_eq_true'.1 hr
   simp only [Bool.and_eq_true, Bool.or_eq_true, beq_iff_eq] at h1
   have hle := hall e he h1.1
   rcases h1.2 with h2 | h2
   · rw [← h2]; exact hle
   · exact Region.reach_listed hc n e.on h2 hle
 rcases Nat.lt_or_ge i listed.size with h' | h'
 ·
  simp [h'] at hun hi
  rw [hun] at hi
  cases hi
 · simp [Array.getElem?_eq_none h'] at hun
def wpAnyLast (P : Program) (md : Region.Mode) (ops : Array Oper) (Q : Exit → Act → World → Prop) (S : World → Prop) (ds : List Nat) : Nat → Array Bool → Act → World → Prop
 | 0, listed, a, w => Region.ready md ops listed = [] ∧ Q .normal a w
 | fuel + 1, listed, a, w =>
  (Region.ready md ops listed = [] → Q .normal a w) ∧
  ∀ i ∈ Region.ready md ops listed, wpOp P ops Q i (fun a' w' => (i ∉ ds → S w → S w') ∧ wpAnyLast P md ops Q S ds fuel (listed.setIfInBounds i true) a' w') a w
theorem wpAny_of_last : ∀ (fuel : Nat) (listed : Array Bool) (a : Act) (w : World), wpAnyLast P md ops Q S ds fuel listed a w → wpAny P md ops Q fuel listed a w
 | 0, _, _, _, h => h
 | fuel + 1, _, _, _, h => ⟨h.1, fun i hi => wpOp_mono (fun a' w' h' => wpAny_of_last fuel _ a' w' h'.2) (h.2 i hi)⟩
theorem wpAnyLast_first {i : Nat} {oi : Oper} {v : Value} (hi : ops[i]? = some oi) (hsel : ∀ (j : Nat) (o : Oper) cs b, ops[j]? = some o → o.op ≠ .select cs b)
  (hQ : ∀ c a w, Q (.panic c) (a.put oi.dst v) w → Q (.panic c) a w) (n : Nat) :
  ∀ (fuel : Nat) (listed : Array Bool) (a : Act) (w : World),
   (∀ j oj, ops[j]? = some oj → j ≠ i → listed.getD j true = false → (∀ e ∈ oj.after, Region.binds md e = true → e.on ≠ i) → oi.apart ops oj = true) →
   ListedClosed md ops listed → (∀ d ∈ ds, listed.getD d true = false → Region.reachB md ops i n d = true) →
   i ∈ Region.ready md ops listed → YieldsIf P ops S oi v a → S w →
   wpAnyLast P md ops Q S ds fuel (listed.setIfInBounds i true) (a.put oi.dst v) w → wpAnyLast P md ops Q S ds (fuel + 1) listed a w := by
 intro fuel
 induction fuel with
 | zero =>
  intro listed a w _ _ _ hr hy hS H
  refine ⟨fun h => (by rw [h] at hr; cases hr), fun j hj => ?_⟩
  by_cases hji : j = i
  · subst hji; exact hy.wpOp hi hS ⟨fun _ h => h, H⟩
  ·
   have := ready_mono hj hji
   rw [H.1] at this
   cases this
 | succ fuel ih =>
  intro listed a w hfree hc hd hr hy hS H
  refine ⟨fun h => (by rw [h] at hr; cases hr), fun j hj => ?_⟩
  by_cases hji : j = i
  · subst hji; exact hy.wpOp hi hS ⟨fun _ h => h, H⟩
  ·
   have h1 := H.2 j (ready_mono hj hji)
   obtain ⟨hjun, oj, hoj, hall⟩ := mem_ready.1 hj
   have hiun := (mem_ready.1 hr).1
   have hnot : ∀ e ∈ oj.after, Region.binds md e = true → e.on ≠ i := fun e he hb heq => by
    have h1 := hall e he hb
    rw [heq] at h1
    rcases Nat.lt_or_ge i listed.size with h' | h'
    · simp [h'] at hiun h1; rw [hiun] at h1; cases h1
    · simp [Array.getElem?_eq_none h'] at h1
   have hjd : j ∉ ds := fun hm => Region.reach_not_ready hc (hd j hm hjun) hiun hj
   have h2 := wpOp_putIf hoj (hfree j oj hoj hji hjun hnot) (fun cs b => hsel i oi cs b hi) (fun cs b => hsel j oj cs b hoj) hQ hy h1
   have hfree' : ∀ k ok, ops[k]? = some ok → k ≠ i → (listed.setIfInBounds j true).getD k true = false →
     (∀ e ∈ ok.after, Region.binds md e = true → e.on ≠ i) → oi.apart ops ok = true := fun k ok hk hki hun hno => by
    refine hfree k ok hk hki ?_ hno
    by_cases hjk : j = k
    · subst hjk; exact hjun
    · rw [getD_set_ne true hjk] at hun; exact hun
   have hd' : ∀ d ∈ ds, (listed.setIfInBounds j true).getD d true = false → Region.reachB md ops i n d = true := fun d hm hun => by
    refine hd d hm ?_
    by_cases hjk : j = d
    · subst hjk; exact hjun
    · rw [getD_set_ne true hjk] at hun; exact hun
   refine wpOp_mono (fun a' w' h3 => ⟨h3.2.1, ih (listed.setIfInBounds j true) a' w' hfree' (hc.set hj) hd' (ready_mono hr (Ne.symm hji)) h3.1 (h3.2.1 hjd hS) ?_⟩) h2
   rw [Array.setIfInBounds_comm _ _ hji]
   exact h3.2.2
theorem wpAnyLast_any {i : Nat} {oi : Oper} {v : Value} (hi : ops[i]? = some oi) (hsel : ∀ (j : Nat) (o : Oper) cs b, ops[j]? = some o → o.op ≠ .select cs b)
  (hQ : ∀ c a w, Q (.panic c) (a.put oi.dst v) w → Q (.panic c) a w) :
  ∀ (fuel : Nat) (listed : Array Bool) (a : Act) (w : World),
   (∀ j oj, ops[j]? = some oj → j ≠ i → listed.getD j true = false → (∀ e ∈ oj.after, Region.binds md e = true → e.on ≠ i) → oi.apart ops oj = true) →
   i ∈ Region.ready md ops listed → Yields P ops oi v a →
   wpAnyLast P md ops Q S ds fuel (listed.setIfInBounds i true) (a.put oi.dst v) w → wpAnyLast P md ops Q S ds (fuel + 1) listed a w := by
 intro fuel
 induction fuel with
 | zero =>
  intro listed a w _ hr hy H
  refine ⟨fun h => (by rw [h] at hr; cases hr), fun j hj => ?_⟩
  by_cases hji : j = i
  · subst hji; exact (hy.yieldsIf (S := fun _ => True)).wpOp hi trivial ⟨fun _ h => h, H⟩
  ·
   have := ready_mono hj hji
   rw [H.1] at this
   cases this
 | succ fuel ih =>
  intro listed a w hfree hr hy H
  refine ⟨fun h => (by rw [h] at hr; cases hr), fun j hj => ?_⟩
  by_cases hji : j = i
  · subst hji; exact (hy.yieldsIf (S := fun _ => True)).wpOp hi trivial ⟨fun _ h => h, H⟩
  ·
   have h1 := H.2 j (ready_mono hj hji)
   obtain ⟨hjun, oj, hoj, hall⟩ := mem_ready.1 hj
   have hiun := (mem_ready.1 hr).1
   have hnot : ∀ e ∈ oj.after, Region.binds md e = true → e.on ≠ i := fun e he hb heq => by
    have h1 := hall e he hb
    rw [heq] at h1
    rcases Nat.lt_or_ge i listed.size with h' | h'
    · simp [h'] at hiun h1; rw [hiun] at h1; cases h1
    · simp [Array.getElem?_eq_none h'] at h1
   have h2 := wpOp_put hoj (hfree j oj hoj hji hjun hnot) (fun cs b => hsel i oi cs b hi) (fun cs b => hsel j oj cs b hoj) hQ hy h1
   have hfree' : ∀ k ok, ops[k]? = some ok → k ≠ i → (listed.setIfInBounds j true).getD k true = false →
     (∀ e ∈ ok.after, Region.binds md e = true → e.on ≠ i) → oi.apart ops ok = true := fun k ok hk hki hun hno => by
    refine hfree k ok hk hki ?_ hno
    by_cases hjk : j = k
    · subst hjk; exact hjun
    · rw [getD_set_ne true hjk] at hun; exact hun
   refine wpOp_mono (fun a' w' h3 => ⟨h3.2.1, ih (listed.setIfInBounds j true) a' w' hfree' (ready_mono hr (Ne.symm hji)) h3.1 ?_⟩) h2
   rw [Array.setIfInBounds_comm _ _ hji]
   exact h3.2.2
theorem wpAnyLast_take {i : Nat} {oi : Oper} {v : Value} {fuel : Nat} {listed : Array Bool} {a : Act} {w : World} (hi : ops[i]? = some oi)
  (hs : Region.noSelect ops = true) (hf : Region.free md ops listed i = true) (hr : (Region.ready md ops listed).contains i = true)
  (hc : Region.closedB md ops listed = true) (hl : Region.lastB md ops listed ds i = true)
  (hQ : ∀ c a w, Q (.panic c) (a.put oi.dst v) w → Q (.panic c) a w) (hy : YieldsIf P ops S oi v a) (hS : S w)
  (h : wpAnyLast P md ops Q S ds fuel (listed.setIfInBounds i true) (a.put oi.dst v) w) : wpAnyLast P md ops Q S ds (fuel + 1) listed a w :=
 wpAnyLast_first hi (Region.noSelect_spec hs) hQ ops.size fuel listed a w (Region.free_spec hi hf) (Region.closedB_spec hc)
  (fun d hm hun => by have := List.all_eq_true.1 hl d hm; rw [hun] at this; simpa using this) (by simpa using hr) hy hS h
theorem wpAnyLast_all {rs : List Nat} {fuel : Nat} {listed : Array Bool} {a : Act} {w : World} (hr : Region.ready md ops listed = rs) (hne : rs ≠ [])
  (h : ∀ i ∈ rs, wpOp P ops Q i (fun a' w' => (i ∉ ds → S w → S w') ∧ wpAnyLast P md ops Q S ds fuel (listed.setIfInBounds i true) a' w') a w) : wpAnyLast P md ops Q S ds (fuel + 1) listed a w :=
 ⟨fun h0 => absurd (hr ▸ h0) hne, hr ▸ h⟩
theorem wpAnyLast_done {listed : Array Bool} {a : Act} {w : World} (hr : Region.ready md ops listed = []) (h : Q .normal a w) :
  ∀ fuel, wpAnyLast P md ops Q S ds fuel listed a w
 | 0 => ⟨hr, h⟩
 | _ + 1 => ⟨fun _ => h, by rw [hr]; simp⟩
theorem wp_region_last {id : Nat} {a : Act} {w : World} (hm : P.follows .mixedOrders = true)
  (h : wpAnyLast P .any ops Q S ds ops.size (Array.replicate ops.size false) a { w with drawn := w.drawn + 1 }) : (Code.region id ops true).wp P Q a w :=
 wp_region_any hm (wpAny_of_last _ _ _ _ h)
end
section
variable {P : Program} {ops : Array Oper} {Q : Exit → Act → World → Prop} {md : Region.Mode} {S : World → Prop} {ds : List Nat}
def AllReadyL (P : Program) (md : Region.Mode) (ops : Array Oper) (Q : Exit → Act → World → Prop) (S : World → Prop) (ds : List Nat) (fuel : Nat) (listed : Array Bool) (a : Act) (w : World) (rs : List Nat) : Prop :=
  ∀ i ∈ rs, wpOp P ops Q i (fun a' w' => (i ∉ ds → S w → S w') ∧ wpAnyLast P md ops Q S ds fuel (listed.setIfInBounds i true) a' w') a w
theorem AllReadyL.nil {fuel : Nat} {listed : Array Bool} {a : Act} {w : World} : AllReadyL P md ops Q S ds fuel listed a w [] := fun _ h => by cases h
theorem AllReadyL.cons {fuel : Nat} {listed : Array Bool} {a : Act} {w : World} {i : Nat} {o : Oper} {rs : List Nat} (ho : ops[i]? = some o) (hd : i ∉ ds)
  (h : ∀ K' : Act → World → Prop, Shut (∀ a w, S w → (S w → wpAnyLast P md ops Q S ds fuel (listed.setIfInBounds i true) a w) → K' a w) → if Region.wanted o (yielded ops a.tmps) = true then Oper.wp P o a w K' Q else K' (a.put o.dst undef) w)
  (hs : AllReadyL P md ops Q S ds fuel listed a w rs) : AllReadyL P md ops Q S ds fuel listed a w (i :: rs) := fun j hj => by
 rcases List.mem_cons.1 hj with rfl | hj
 · exact wpOp_step ho (fun K' hK => h K' (fun a w hS hW => hK a w ⟨fun _ _ => hS, hW hS⟩))
 · exact hs j hj
theorem AllReadyL.cons_last {fuel : Nat} {listed : Array Bool} {a : Act} {w : World} {i : Nat} {o : Oper} {rs : List Nat} (ho : ops[i]? = some o) (hd : i ∈ ds)
  (h : ∀ K' : Act → World → Prop, Shut (∀ a w, wpAnyLast P md ops Q S ds fuel (listed.setIfInBounds i true) a w → K' a w) → if Region.wanted o (yielded ops a.tmps) = true then Oper.wp P o a w K' Q else K' (a.put o.dst undef) w)
  (hs : AllReadyL P md ops Q S ds fuel listed a w rs) : AllReadyL P md ops Q S ds fuel listed a w (i :: rs) := fun j hj => by
 rcases List.mem_cons.1 hj with rfl | hj
 · exact wpOp_step ho (fun K' hK => h K' (fun a w hW => hK a w ⟨fun hn => absurd hd hn, hW⟩))
 · exact hs j hj
theorem wpAnyLast_ready {rs : List Nat} {fuel : Nat} {listed : Array Bool} {a : Act} {w : World} (hr : Region.ready md ops listed = rs) (hne : rs ≠ [])
    (h : AllReadyL P md ops Q S ds fuel listed a w rs) : wpAnyLast P md ops Q S ds (fuel + 1) listed a w := wpAnyLast_all hr hne h
theorem start_ {id n : Nat} {a : Act} {w : World} (l : Array Bool) (hm : P.follows .mixedOrders = true) (hn : ops.size = n) (hl : Array.replicate n false = l) (hS : S w.drew)
  (h : S w.drew → wpAnyLast P .any ops Q S ds n l a w.drew) : (Code.region id ops true).wp P Q a w := by
 subst hn
 subst hl
 exact wp_region_last hm (h hS)
def takeB (md : Region.Mode) (ops : Array Oper) (ds : List Nat) (l l' : Array Bool) (i : Nat) : Bool :=
  Region.noSelect ops && Region.free md ops l i && (Region.ready md ops l).contains i && Region.closedB md ops l && Region.lastB md ops l ds i && (l.setIfInBounds i true == l')
theorem take_ {i : Nat} {N : Option Tmp} {oi : Oper} {v : Value} {fuel : Nat} {l : Array Bool} {a : Act} {w : World} (l' : Array Bool) (hi : ops[i]? = some oi) (hN : oi.dst = N) (hc : takeB md ops ds l l' i = true)
  (hQ : ∀ c a w, Q (.panic c) (a.put oi.dst v) w → Q (.panic c) a w) (hy : YieldsIf P ops S oi v a) (hS : S w) {a' : Act} (ha : a.put N v = a')
  (h : wpAnyLast P md ops Q S ds fuel l' a' w) : wpAnyLast P md ops Q S ds (fuel + 1) l a w := by
 subst ha
 subst hN
 simp only [takeB, Bool.and_eq_true, beq_iff_eq] at hc
 obtain ⟨⟨⟨⟨⟨h1, h2⟩, h3⟩, h4⟩, h5⟩, h6⟩ := hc
 subst h6
 exact wpAnyLast_take hi h1 h2 h3 h4 h5 hQ hy hS h
def anyB (md : Region.Mode) (ops : Array Oper) (l l' : Array Bool) (i : Nat) : Bool :=
  Region.noSelect ops && Region.free md ops l i && (Region.ready md ops l).contains i && (l.setIfInBounds i true == l')
theorem pure_ {i : Nat} {N : Option Tmp} {oi : Oper} {v : Value} {fuel : Nat} {l : Array Bool} {a : Act} {w : World} (l' : Array Bool) (hi : ops[i]? = some oi) (hN : oi.dst = N) (hc : anyB md ops l l' i = true)
  (hQ : ∀ c a w, Q (.panic c) (a.put oi.dst v) w → Q (.panic c) a w) (hy : Yields P ops oi v a) {a' : Act} (ha : a.put N v = a')
  (h : wpAnyLast P md ops Q S ds fuel l' a' w) : wpAnyLast P md ops Q S ds (fuel + 1) l a w := by
 subst ha
 subst hN
 simp only [anyB, Bool.and_eq_true, beq_iff_eq] at hc
 obtain ⟨⟨⟨h1, h2⟩, h3⟩, h6⟩ := hc
 subst h6
 exact wpAnyLast_any hi (Region.noSelect_spec h1) hQ fuel l a w (Region.free_spec hi h2) (by simpa using h3) hy h
def readyB (md : Region.Mode) (ops : Array Oper) (l l' : Array Bool) (i : Nat) : Bool := (Region.ready md ops l == [i]) && (l.setIfInBounds i true == l')
theorem one_ {i : Nat} {N : Option Tmp} {oi : Oper} {fuel : Nat} {l : Array Bool} {a : Act} {w : World} (l' : Array Bool) (hi : ops[i]? = some oi) (hN : oi.dst = N) (hc : readyB md ops l l' i = true) (hd : i ∉ ds)
  (h : ∀ K : Act → World → Prop, Shut (∀ a' w', S w' → (S w' → wpAnyLast P md ops Q S ds fuel l' a' w') → K a' w') → if Region.wanted oi (yielded ops a.tmps) = true then Oper.wp P oi a w K Q else K (a.put N undef) w) :
  wpAnyLast P md ops Q S ds (fuel + 1) l a w := by
 subst hN
 simp only [readyB, Bool.and_eq_true, beq_iff_eq] at hc
 obtain ⟨h1, h2⟩ := hc
 subst h2
 exact wpAnyLast_ready h1 (by simp) (AllReadyL.cons hi hd (fun K hK => h K hK) AllReadyL.nil)
theorem last_ {i : Nat} {N : Option Tmp} {oi : Oper} {fuel : Nat} {l : Array Bool} {a : Act} {w : World} (l' : Array Bool) (hi : ops[i]? = some oi) (hN : oi.dst = N) (hc : readyB md ops l l' i = true) (hd : i ∈ ds)
  (h : ∀ K : Act → World → Prop, Shut (∀ a' w', wpAnyLast P md ops Q S ds fuel l' a' w' → K a' w') → if Region.wanted oi (yielded ops a.tmps) = true then Oper.wp P oi a w K Q else K (a.put N undef) w) :
  wpAnyLast P md ops Q S ds (fuel + 1) l a w := by
 subst hN
 simp only [readyB, Bool.and_eq_true, beq_iff_eq] at hc
 obtain ⟨h1, h2⟩ := hc
 subst h2
 exact wpAnyLast_ready h1 (by simp) (AllReadyL.cons_last hi hd (fun K hK => h K hK) AllReadyL.nil)
theorem done_ {l : Array Bool} {a : Act} {w : World} {n : Nat} (hr : (Region.ready md ops l == []) = true) (h : Q .normal a w) : wpAnyLast P md ops Q S ds n l a w := wpAnyLast_done (by simpa using hr) h n
theorem two_ {i j : Nat} {Ni Nj : Option Tmp} {oi oj : Oper} {fuel : Nat} {l : Array Bool} {a : Act} {w : World} (li lj : Array Bool) (hi : ops[i]? = some oi) (hj : ops[j]? = some oj) (hNi : oi.dst = Ni) (hNj : oj.dst = Nj)
  (hc : (Region.ready md ops l == [i, j] && l.setIfInBounds i true == li && l.setIfInBounds j true == lj) = true) (hdi : i ∉ ds) (hdj : j ∉ ds)
  (h1 : ∀ K : Act → World → Prop, Shut (∀ a' w', S w' → (S w' → wpAnyLast P md ops Q S ds fuel li a' w') → K a' w') → if Region.wanted oi (yielded ops a.tmps) = true then Oper.wp P oi a w K Q else K (a.put Ni undef) w)
  (h2 : ∀ K : Act → World → Prop, Shut (∀ a' w', S w' → (S w' → wpAnyLast P md ops Q S ds fuel lj a' w') → K a' w') → if Region.wanted oj (yielded ops a.tmps) = true then Oper.wp P oj a w K Q else K (a.put Nj undef) w) :
  wpAnyLast P md ops Q S ds (fuel + 1) l a w := by
 subst hNi
 subst hNj
 simp only [Bool.and_eq_true, beq_iff_eq] at hc
 obtain ⟨⟨h3, h4⟩, h5⟩ := hc
 subst h4
 subst h5
 exact wpAnyLast_ready h3 (by simp) (AllReadyL.cons hi hdi (fun K hK => h1 K hK) (AllReadyL.cons hj hdj (fun K hK => h2 K hK) AllReadyL.nil))
def putAll : Act → List (Tmp × Value) → Act
 | a, [] => a
 | a, (n, v) :: r => putAll (a.put (some n) v) r
theorem join_ {σ : Type} {fuel : Nat} {l : Array Bool} {a : Act} {w : World} (fuel' : Nat) (l' : Array Bool) (ns : σ → List (Tmp × Value)) (F : σ → World → Prop)
 (hcont : ∀ s w', F s w' → wpAnyLast P md ops Q S ds fuel' l' (putAll a (ns s)) w')
 (h : (∀ s w', F s w' → wpAnyLast P md ops Q S ds fuel' l' (putAll a (ns s)) w') → wpAnyLast P md ops Q S ds fuel l a w) : wpAnyLast P md ops Q S ds fuel l a w := h hcont
theorem norm_ {fuel : Nat} {l : Array Bool} {a a' : Act} {w : World} (ha : a = a') (h : wpAnyLast P md ops Q S ds fuel l a' w) : wpAnyLast P md ops Q S ds fuel l a w := by
 subst ha
 exact h
theorem call_ {oi : Oper} {N : Option Tmp} {a : Act} {w : World} {K : Act → World → Prop} (f : FuncId) (args : Array Value) (hw : Region.wanted oi (yielded ops a.tmps) = true) (hN : oi.dst = N) (hrun : (execOp a.eval oi).run P w = .ok (.enter f args) w)
  (h : Calls P f args w fun e w' => ∃ v, e = .returned v ∧ K (a.put N v) w') : if Region.wanted oi (yielded ops a.tmps) = true then Oper.wp P oi a w K Q else K (a.put N undef) w := by
 rw [if_pos hw]
 subst hN
 unfold Oper.wp
 rw [hrun, Oper.upon_enter]
 refine h.mono fun e w'' hh => ?_
 obtain ⟨v, rfl, hk⟩ := hh
 exact hk
theorem enters_ {f : FuncId} {fn : Func} (hf : P.funcs[f]? = some fn) (hname : (fn.name == "runtime.NumGoroutine") = false) (hb : fn.body.isSome = true) (args : Array Value) (w : World) : (callFunc f args).run P w = .ok (.enter f args) w := by
 have h1 : fn.name ≠ "runtime.NumGoroutine" := by simpa using hname
 obtain ⟨c, hc⟩ := Option.isSome_iff_exists.1 hb
 simp [callFunc, hf, h1, hc]
theorem goes_ {oi : Oper} {N : Option Tmp} {a : Act} {w : World} {K : Act → World → Prop} {f : FuncId} {fn : Func} {aas : Array Operand} {ts : Array TypeId} (hf : P.funcs[f]? = some fn) (hname : (fn.name == "runtime.NumGoroutine") = false) (hb : fn.body.isSome = true) (args : Array Value)
  (hw : Region.wanted oi (yielded ops a.tmps) = true) (hN : oi.dst = N) (hop : oi.op = .call { callee := .value (.func f), args := aas, argTypes := ts }) (hargs : aas.map a.eval = args)
  (h : Calls P f args w fun e w' => ∃ v, e = .returned v ∧ K (a.put N v) w') : if Region.wanted oi (yielded ops a.tmps) = true then Oper.wp P oi a w K Q else K (a.put N undef) w := by
 refine call_ f args hw hN ?_ h
 have he := enters_ hf hname hb args w
 unfold execOp
 simp [hop, resolve, Deferred.ofValue, invoke, Act.eval, hargs, he]
theorem value_ {oi : Oper} {N : Option Tmp} {a : Act} {w w1 : World} {v : Value} {K : Act → World → Prop} (hw : Region.wanted oi (yielded ops a.tmps) = true) (hN : oi.dst = N) (hrun : (execOp a.eval oi).run P w = .ok (.value v) w1)
  (h : K (a.put N v) w1) : if Region.wanted oi (yielded ops a.tmps) = true then Oper.wp P oi a w K Q else K (a.put N undef) w := by
 rw [if_pos hw]
 subst hN
 unfold Oper.wp
 rw [hrun]
 exact h
theorem skip_ {oi : Oper} {a : Act} {w w1 : World} {K : Act → World → Prop} (hw : Region.wanted oi (yielded ops a.tmps) = true) (hN : oi.dst = none) (hrun : (execOp a.eval oi).run P w = .ok .skip w1)
  (h : K a w1) : if Region.wanted oi (yielded ops a.tmps) = true then Oper.wp P oi a w K Q else K (a.put none undef) w := by
 rw [if_pos hw]
 unfold Oper.wp
 rw [hrun]
 show K (a.put oi.dst undef) w1
 rw [hN]
 exact h
theorem i64_w (n : Int) : IntKind.i64.wrap n = Go.RowKit.wrap64 n := by unfold Go.RowKit.wrap64; exact IntKind.wrap_i64 n
theorem i32_w (n : Int) : IntKind.i32.wrap n = Go.RowKit.wrap32 n := by unfold Go.RowKit.wrap32; exact IntKind.wrap_i32 n
theorem pu_ {i : Nat} {N : Option Tmp} {oi : Oper} {v : Value} {fuel : Nat} {l : Array Bool} {a : Act} {w : World} (hi : ops[i]? = some oi) (hN : oi.dst = N) (hc : anyB md ops l (l.setIfInBounds i true) i = true) (hQ : ∀ c a w, Q (.panic c) (a.put oi.dst v) w → Q (.panic c) a w) (hw : Region.wanted oi (yielded ops a.tmps) = true) (hy : ∀ w, (execOp a.eval oi).run P w = .ok (.value v) w) {a' : Act} (ha : a.put N v = a') (h : wpAnyLast P md ops Q S ds fuel (l.setIfInBounds i true) a' w) : wpAnyLast P md ops Q S ds (fuel + 1) l a w := pure_ _ hi hN hc hQ (Or.inl ⟨hw, hy⟩) ha h
theorem tk_ {i : Nat} {N : Option Tmp} {oi : Oper} {v : Value} {fuel : Nat} {l : Array Bool} {a : Act} {w : World} (hi : ops[i]? = some oi) (hN : oi.dst = N) (hc : takeB md ops ds l (l.setIfInBounds i true) i = true) (hQ : ∀ c a w, Q (.panic c) (a.put oi.dst v) w → Q (.panic c) a w) (hw : Region.wanted oi (yielded ops a.tmps) = true) (hy : ∀ w, S w → (execOp a.eval oi).run P w = .ok (.value v) w) (hS : S w) {a' : Act} (ha : a.put N v = a') (h : wpAnyLast P md ops Q S ds fuel (l.setIfInBounds i true) a' w) : wpAnyLast P md ops Q S ds (fuel + 1) l a w := take_ _ hi hN hc hQ (Or.inl ⟨hw, hy⟩) hS ha h
theorem on_ {i : Nat} {N : Option Tmp} {oi : Oper} {fuel : Nat} {l : Array Bool} {a : Act} {w : World} (hi : ops[i]? = some oi) (hN : oi.dst = N) (hc : readyB md ops l (l.setIfInBounds i true) i = true) (hd : i ∉ ds) (h : ∀ K : Act → World → Prop, Shut (∀ a' w', S w' → (S w' → wpAnyLast P md ops Q S ds fuel (l.setIfInBounds i true) a' w') → K a' w') → if Region.wanted oi (yielded ops a.tmps) = true then Oper.wp P oi a w K Q else K (a.put N undef) w) : wpAnyLast P md ops Q S ds (fuel + 1) l a w := one_ _ hi hN hc hd h
theorem la_ {i : Nat} {N : Option Tmp} {oi : Oper} {fuel : Nat} {l : Array Bool} {a : Act} {w : World} (hi : ops[i]? = some oi) (hN : oi.dst = N) (hc : readyB md ops l (l.setIfInBounds i true) i = true) (hd : i ∈ ds) (h : ∀ K : Act → World → Prop, Shut (∀ a' w', wpAnyLast P md ops Q S ds fuel (l.setIfInBounds i true) a' w' → K a' w') → if Region.wanted oi (yielded ops a.tmps) = true then Oper.wp P oi a w K Q else K (a.put N undef) w) : wpAnyLast P md ops Q S ds (fuel + 1) l a w := last_ _ hi hN hc hd h
theorem put_s (t : List Value) (d : List Deferred) (n : Nat) (v : Value) : Act.put { tmps := t.toArray, defers := d } (some n) v = { tmps := (t.set n v).toArray, defers := d } := by simp [Act.put]
end
end Go.Proofs.YtmofiicjaldmiaaGreatDoorW.PrintLast
end
section
namespace Go.Proofs.YtmofiicjaldmiaaGreatDoor.SvA
open Go.RowKit YtmofiicjaldmiaaGreatDoorW.PrintWords YtmofiicjaldmiaaGreatDoorW.PrintLast
set_option linter.unusedVariables false
set_option linter.unusedSimpArgs false
structure Tu (S : List Nat) (w w' : World) : Prop where
 os : w'.os = w.os
 tape : w'.tape = w.tape
 output : w'.output = w.output
 size : w.heap.size ≤ w'.heap.size
 block : ∀ k, k < w.heap.size → k ∉ S → w'.heap[k]? = w.heap[k]?
theorem Tu.trans {S : List Nat} {a b c : World} (h : Tu S a b) (k : Tu S b c) : Tu S a c :=
  ⟨k.os.trans h.os, k.tape.trans h.tape, k.output.trans h.output, Nat.le_trans h.size k.size, fun i hi hs => (k.block i (Nat.lt_of_lt_of_le hi h.size) hs).trans (h.block i hi hs)⟩
theorem Tu.setCell {S : List Nat} {a w : World} (h : Tu S a w) {p : Addr} (hp : p.block ∈ S ∨ a.heap.size ≤ p.block) (u : Value) : Tu S a (w.setCell p u) :=
  ⟨h.os, h.tape, h.output, Nat.le_trans h.size (by simp [World.setCell]), fun k hk hs => (Below.heap_setCell _ _ _ _ (fun e => by subst e; rcases hp with x | x; exact hs x; omega)).trans (h.block k hk hs)⟩
abbrev BytesAt (w : World) (A : Option Addr) (n : Nat) (xs : List Int) : Prop := Kd.C (Kd.int .u8) w A n xs
theorem BytesAt.below {B : Nat} {w w' : World} {A : Option Addr} {n : Nat} {xs : List Int} (h : BytesAt w A n xs) (hb : Below w.heap.size w w') : BytesAt w' A n xs := Kd.C_below h hb
theorem BytesAt.len {w : World} {A : Option Addr} {n : Nat} {xs : List Int} (h : BytesAt w A n xs) : xs.length = n := by
 have hr := Kd.reads_of_C (enc := Value.int .u8) (d := (0 : Int)) (h1 := fun _ => rfl) h
 exact hr.1
abbrev Blk (w : World) (g : Nat) (cs : Array Value) (t : TypeId) : Prop := w.heap[g]? = some (.cells cs t (0, 0))
theorem Blk.lt {w : World} {g : Nat} {cs : Array Value} {t : TypeId} (h : Blk w g cs t) : g < w.heap.size := (Array.getElem?_eq_some_iff.1 h).1
abbrev u8s (xs : List Int) : Prop := ∀ x ∈ xs, 0 ≤ x ∧ x < 256
theorem BytesAt.at_ {w : World} {A : Option Addr} {n : Nat} {xs : List Int} (h : BytesAt w A n xs) (i : Nat) (hi : i < n) : ∃ ad, A = some ad ∧ w.cell? (ad.add i) = some (.int .u8 (rd xs i)) := by
 obtain ⟨ad, e, hc⟩ := Kd.at_int h (i : Int) (by omega) (by omega)
 exact ⟨ad, e, hc⟩
abbrev OwnB (w : World) (base : Nat) (ok : Nat → Prop) (v : Value) (xs : List Int) : Prop := (Kd.int .u8).R 5 w base ok v xs
theorem Blk.cell {w : World} {g i : Nat} {cs : Array Value} {t : TypeId} {v : Value} (h : Blk w g cs t) (hv : cs[i]? = some v) : w.cell? ⟨g, i, none⟩ = some v := by simp [World.cell?, h, hv]
theorem Blk.frozen {w : World} {g i : Nat} {cs : Array Value} {t : TypeId} (h : Blk w g cs t) : w.frozen? ⟨g, i, none⟩ = false := frozen_of_row _ _ _ _ _ h
theorem Blk.set {w : World} {g i : Nat} {cs : Array Value} {t : TypeId} (h : Blk w g cs t) (v : Value) : Blk (w.setCell ⟨g, i, none⟩ v) g (cs.setIfInBounds i v) t := heap_setCell_same _ _ _ _ _ _ h
theorem Blk.other {w : World} {g : Nat} {p : Addr} {cs : Array Value} {t : TypeId} (h : Blk w g cs t) (hp : g ≠ p.block) (v : Value) : Blk (w.setCell p v) g cs t := (Below.heap_setCell _ _ _ _ hp).trans h
abbrev pt (g : Nat) : Value := .pointer (some ⟨g, 0, none⟩)
theorem BytesAt.take {w : World} {A : Option Addr} {n : Nat} {xs : List Int} (h : BytesAt w A n xs) (i : Nat) (hi : i ≤ n) : BytesAt w A i (xs.take i) :=
  Kd.C_of_reads ((Kd.reads_of_C (enc := Value.int .u8) (d := (0 : Int)) (h1 := fun _ => rfl) h).take_ i hi)
theorem Blk.below {w w' : World} {g : Nat} {cs : Array Value} {t : TypeId} (h : Blk w g cs t) (hb : Below w.heap.size w w') : Blk w' g cs t := (hb.block g h.lt).trans h
theorem blkNew {w : World} {g : Nat} {cs : Array Value} {t : TypeId} (h : g = w.heap.size) : Blk (w.alloc (.cells cs t)) g cs t := by
 subst h
 exact heap_alloc_new w _
structure Sl where
 A : Option Addr
 n : Nat
 c : Nat
def Sl.enc (s : Sl) : Value := .slice s.A s.n s.c
def Sl.blk (s : Sl) : Option Nat := s.enc.ownBlock
def flatK {α : Type} (sz : Nat) (f : α → List Value) (h1 : ∀ x, (f x).length = sz) (h2 : ∀ x, ∀ u ∈ f x, u.oneCell' = true) : Kd α where
 sz := sz
 E := []
 K := fun _ x cs => cs = f x
 M := fun _ _ _ x cs => cs = f x
 K_len := fun h => by subst h; exact h1 _
 K_one := fun h => by subst h; exact h2 _
 K_below := fun _ h => h
 K_of_M := fun h => h
 M_mono := fun _ h => h
 M_bound := fun h => h
 M_move := fun _ h => h
 M_lower := fun _ h => h
def Rd {α : Type} (d : Kd α) (w : World) (own : Nat → Nat) (t : Nat) (s : Sl) (xs : List α) : Prop := d.C w s.A s.n xs ∧ s.n ≤ s.c ∧ ∀ a, s.A = some a → 0 < s.n → own a.block = t
def Ow {α : Type} (d : Kd α) (e : Nat) (w : World) (own : Nat → Nat) (t : Nat) (s : Sl) (xs : List α) : Prop := d.R e w 0 (fun k => own k = t) s.enc xs
theorem ow_len {α : Type} {d : Kd α} {e : Nat} {w : World} {own : Nat → Nat} {t : Nat} {s : Sl} {xs : List α} (h : Ow d e w own t s xs) : xs.length = s.n ∧ s.n ≤ s.c ∧ d.C w s.A s.n xs := by
 obtain ⟨A, c, hv, h1, h2⟩ := Kd.R_reads h
 simp only [Sl.enc, Value.slice.injEq] at hv
 obtain ⟨e1, e2, e3⟩ := hv
 rw [← e2] at h1 h2
 rw [e1]
 exact ⟨e2.symm, by omega, h2⟩
theorem ow_blk {α : Type} {d : Kd α} {e : Nat} {w : World} {own : Nat → Nat} {t : Nat} {s : Sl} {xs : List α} (h : Ow d e w own t s xs) (k : Nat) (hk : s.blk = some k) : own k = t ∧ k < w.heap.size := by
 obtain ⟨inner, ho⟩ := Kd.R_own h
 exact ⟨h.1 k hk, own_lt ho k hk⟩
theorem ow_blk_of {α : Type} {d : Kd α} {e : Nat} {w : World} {own : Nat → Nat} {t : Nat} {s : Sl} {xs : List α} (h : Ow d e w own t s xs) (a : Addr) (ha : s.A = some a) : s.blk = some a.block := by
 unfold Sl.blk Sl.enc
 rw [ha]
 rfl
theorem ow_rd {α : Type} {d : Kd α} {e : Nat} {w : World} {own : Nat → Nat} {t : Nat} {s : Sl} {xs : List α} (h : Ow d e w own t s xs) : Rd d w own t s xs :=
  ⟨(ow_len h).2.2, (ow_len h).2.1, fun a ha _ => (ow_blk h a.block (ow_blk_of h a ha)).1⟩
structure Kp (ts : Nat → Prop) (w : World) (own : Nat → Nat) (w' : World) (own' : Nat → Nat) : Prop where
 os : w'.os = w.os
 tape : w'.tape = w.tape
 output : w'.output = w.output
 size : w.heap.size ≤ w'.heap.size
 block : ∀ k, k < w.heap.size → ¬ ts (own k) → own' k = own k ∧ w'.heap[k]? = w.heap[k]?
theorem Kp.refl (ts : Nat → Prop) (w : World) (own : Nat → Nat) : Kp ts w own w own := ⟨rfl, rfl, rfl, Nat.le_refl _, fun _ _ _ => ⟨rfl, rfl⟩⟩
theorem Kp.trans {ts : Nat → Prop} {w w1 w2 : World} {o o1 o2 : Nat → Nat} (h : Kp ts w o w1 o1) (k : Kp ts w1 o1 w2 o2) : Kp ts w o w2 o2 :=
 ⟨k.os.trans h.os, k.tape.trans h.tape, k.output.trans h.output, Nat.le_trans h.size k.size, fun i hi hn => by
  obtain ⟨a, b⟩ := h.block i hi hn
  obtain ⟨c, d⟩ := k.block i (Nat.lt_of_lt_of_le hi h.size) (by rw [a]; exact hn)
  exact ⟨c.trans a, d.trans b⟩⟩
theorem Kp.mono {ts ts' : Nat → Prop} {w w1 : World} {o o1 : Nat → Nat} (h : Kp ts w o w1 o1) (hs : ∀ t, ts t → ts' t) : Kp ts' w o w1 o1 := ⟨h.os, h.tape, h.output, h.size, fun i hi hn => h.block i hi (fun hm => hn (hs _ hm))⟩
def tagged (w : World) (own : Nat → Nat) (t : Nat) : Nat → Nat := fun k => if k < w.heap.size then own k else t
theorem tagged_old {w : World} {own : Nat → Nat} {t k : Nat} (h : k < w.heap.size) : tagged w own t k = own k := if_pos h
theorem tagged_new {w : World} {own : Nat → Nat} {t k : Nat} (h : w.heap.size ≤ k) : tagged w own t k = t := if_neg (by omega)
theorem Kp.below {ts : Nat → Prop} {w w' : World} {own : Nat → Nat} (h : Below w.heap.size w w') (t : Nat) : Kp ts w own w' (tagged w own t) := ⟨h.os, h.tape, h.output, h.size, fun k hk _ => ⟨tagged_old hk, h.block k hk⟩⟩
theorem Kp.grown {ts : Nat → Prop} {w w' : World} {own : Nat → Nat} {row : Option Nat} (h : w.grownBy w' row) (t : Nat) (hr : ∀ k, row = some k → ts (own k)) : Kp ts w own w' (tagged w own t) :=
  ⟨h.os, h.tape, h.output, h.size, fun k hk hn => ⟨tagged_old hk, h.block k hk (fun e => hn (hr k e.symm))⟩⟩
theorem Kp.drew {ts : Nat → Prop} {w w' : World} {own own' : Nat → Nat} (h : Kp ts w own w' own') : Kp ts w own w'.drew own' := ⟨h.os, h.tape, h.output, h.size, h.block⟩
theorem Kp.set {ts : Nat → Prop} {w w' : World} {own own' : Nat → Nat} (h : Kp ts w own w' own') (p : Addr) (v : Value) (hp : ∀ k, k < w.heap.size → ¬ ts (own k) → k ≠ p.block) : Kp ts w own (w'.setCell p v) own' :=
  ⟨h.os, h.tape, h.output, Nat.le_trans h.size (by simp [World.setCell]), fun k hk hn => ⟨(h.block k hk hn).1, (Below.heap_setCell w' p v k (hp k hk hn)).trans (h.block k hk hn).2⟩⟩
theorem Ow.keep {α : Type} {d : Kd α} {e : Nat} {ts : Nat → Prop} {w w' : World} {own own' : Nat → Nat} {t : Nat} {s : Sl} {xs : List α} (h : Ow d e w own t s xs) (hk : Kp ts w own w' own') (ht : ¬ ts t) : Ow d e w' own' t s xs :=
  Kd.R_mono (Kd.R_move (Kd.R_bound h) (fun k hb => (hk.block k hb.2.2.1 (by rw [hb.1]; exact ht)).2)) (fun k hb => by rw [(hk.block k hb.2.2.1 (by rw [hb.1]; exact ht)).1]; exact hb.1)
theorem C_move {α : Type} {d : Kd α} (hd : ∀ {w w1 : World} {x : α} {cs : List Value}, d.K w x cs → d.K w1 x cs) {w w' : World} {A : Option Addr} {n : Nat} {xs : List α} (h : d.C w A n xs) (hsz : 0 < d.sz) (hm : ∀ a, A = some a → 0 < n → w'.heap[a.block]? = w.heap[a.block]?) : d.C w' A n xs := by
 obtain ⟨h1, h2, h3⟩ := h
 refine ⟨h1, h2, fun hn => ?_⟩
 obtain ⟨ad, e, hc⟩ := h3 hn
 refine ⟨ad, e, fun j p hj => ?_⟩
 obtain ⟨c, hl, hK, hcell⟩ := hc j p hj
 refine ⟨c, hl, hd hK, fun i u hi => ?_⟩
 have hb : ∀ k, (ad.add k).block = ad.block := fun k => by unfold Addr.add; split <;> rfl
 have hh : w'.heap[(ad.add (j * d.sz + i)).block]? = w.heap[(ad.add (j * d.sz + i)).block]? := by rw [hb]; exact hm ad e hn
 exact (World.cell?_of_block (w := w) hh).trans (hcell i u hi)
theorem C_lt {α : Type} {d : Kd α} {w : World} {A : Option Addr} {n : Nat} {xs : List α} (h : d.C w A n xs) (hsz : 0 < d.sz) (a : Addr) (ha : A = some a) (hn : 0 < n) : a.block < w.heap.size := by
 obtain ⟨h1, h2, h3⟩ := h
 obtain ⟨ad, e, hc⟩ := h3 hn
 rw [ha] at e
 injection e with e
 subst e
 have h0 : 0 < xs.length := by omega
 obtain ⟨c, hl, hK, hcell⟩ := hc 0 xs[0] (List.getElem?_eq_getElem h0)
 have h4 : 0 < c.length := by omega
 have := World.block_lt_of_cell? w _ (hcell 0 c[0] (List.getElem?_eq_getElem h4))
 have hb : (a.add (0 * d.sz + 0)).block = a.block := by unfold Addr.add; split <;> rfl
 rwa [hb] at this
theorem Rd.keep {α : Type} {d : Kd α} (hd : ∀ {w w1 : World} {x : α} {cs : List Value}, d.K w x cs → d.K w1 x cs) (hsz : 0 < d.sz) {ts : Nat → Prop} {w w' : World} {own own' : Nat → Nat} {t : Nat} {s : Sl} {xs : List α} (h : Rd d w own t s xs) (hk : Kp ts w own w' own') (ht : ¬ ts t) : Rd d w' own' t s xs := by
 have hb : ∀ a, s.A = some a → 0 < s.n → own' a.block = own a.block ∧ w'.heap[a.block]? = w.heap[a.block]? := fun a ha hn => hk.block a.block (C_lt h.1 hsz a ha hn) (by rw [h.2.2 a ha hn]; exact ht)
 exact ⟨C_move hd h.1 hsz (fun a ha hn => (hb a ha hn).2), h.2.1, fun a ha hn => (hb a ha hn).1.trans (h.2.2 a ha hn)⟩
theorem Blk.keep {ts : Nat → Prop} {w w' : World} {own own' : Nat → Nat} {g : Nat} {cs : Array Value} {t : TypeId} (h : Blk w g cs t) (hk : Kp ts w own w' own') (ht : ¬ ts (own g)) : Blk w' g cs t ∧ own' g = own g := by
 have := hk.block g (Blk.lt h) ht
 exact ⟨this.2.trans h, this.1⟩
theorem ow_new {α : Type} {d : Kd α} {e : Nat} {w w' : World} {own : Nat → Nat} {s : Sl} {xs : List α} {ok : Nat → Prop} (t : Nat) (h : d.R e w' w.heap.size ok s.enc xs) : Ow d e w' (tagged w own t) t s xs :=
  Kd.R_lower (Kd.R_mono (Kd.R_bound h) (fun k hk => tagged_new hk.2.1)) (Nat.zero_le _)
def ret (own : Nat → Nat) (t t' : Nat) : Nat → Nat := fun k => if own k = t then t' else own k
theorem Kp.ret (w : World) (own : Nat → Nat) (t t' : Nat) : Kp (fun q => q = t) w own w (ret own t t') := ⟨rfl, rfl, rfl, Nat.le_refl _, fun k _ hn => ⟨if_neg hn, rfl⟩⟩
theorem Ow.ret {α : Type} {d : Kd α} {e : Nat} {w : World} {own : Nat → Nat} {t : Nat} {s : Sl} {xs : List α} (h : Ow d e w own t s xs) (t' : Nat) : Ow d e w (ret own t t') t' s xs := Kd.R_mono h (fun k hk => if_pos hk)
theorem Ow.alloc {α : Type} {d : Kd α} {e : Nat} {w W : World} {own : Nat → Nat} {t : Nat} {s : Sl} {xs : List α} (h : Ow d e w own t s xs) (hB : Below w.heap.size w W) : d.R e W 0 (fun k => tagged w own t k = t) s.enc xs :=
  Kd.R_below (Kd.R_mono (Kd.R_bound h) (fun k hk => by rw [tagged_old hk.2.2.1]; exact hk.1)) hB
theorem Ow.pushed {α : Type} {d : Kd α} {e : Nat} {w W w1 : World} {own : Nat → Nat} {t : Nat} {s : Sl} {v1 : Value} {xs ys : List α} (h : Ow d e w own t s xs) (hB : Below w.heap.size w W) (hr : d.R e w1 0 (fun k => tagged w own t k = t) v1 ys) (hg : W.grownBy w1 s.enc.ownBlock) :
  ∃ s1, v1 = s1.enc ∧ Ow d e w1 (tagged w own t) t s1 ys ∧ Kp (fun q => q = t) w own w1 (tagged w own t) := by
 obtain ⟨A, c, hv, _, _⟩ := Kd.R_reads hr
 subst hv
 refine ⟨⟨A, ys.length, c⟩, rfl, hr, hg.os.trans hB.os, hg.tape.trans hB.tape, hg.output.trans hB.output, Nat.le_trans hB.size hg.size, fun k hk hn => ⟨tagged_old hk, ?_⟩⟩
 exact (hg.block k (Nat.lt_of_lt_of_le hk hB.size) (fun e => hn (ow_blk h k e.symm).1)).trans (hB.block k hk)
theorem conv_str {w : World} {A : Option Addr} {n c : Nat} {xs : List Int} (h : BytesAt w A n xs) : (convert 43 9 (.slice A n c)).run Tryz.prog w = .ok (.string (strOfNums xs)) w := Kd.C_string Tryz.underlying43 Tryz.underlying5 Tryz.underlying9 h
theorem sc_at {α : Type} {enc : α → Value} {h1 : ∀ x, (enc x).oneCell' = true} {w : World} {A : Option Addr} {n : Nat} {xs : List α} (h : (Kd.scalar enc h1).C w A n xs) (j : Nat) (hj : j < n) (x : α) (hx : xs[j]? = some x) : ∃ ad, A = some ad ∧ w.cell? (ad.add j) = some (enc x) := by
 obtain ⟨ad, c, e, _, hK, hc0⟩ := Kd.C_get h x (j : Int) (by omega) (by omega)
 rw [Int.toNat_natCast, List.getD_eq_getElem?_getD, hx] at hK
 have hK' : c = [enc x] := hK
 subst hK'
 exact ⟨ad, e, by have := hc0 0 _ rfl; rw [Int.toNat_natCast, Nat.add_zero] at this; simpa [Kd.scalar] using this⟩
def nilS : Sl := ⟨none, 0, 0⟩
theorem Ow.put {α : Type} {enc : α → Value} {h1 : ∀ x, (enc x).oneCell' = true} {e : Nat} {w : World} {own : Nat → Nat} {t gb n c : Nat} {xs : List α} (h : Ow (Kd.scalar enc h1) e w own t ⟨some ⟨gb, 0, none⟩, n, c⟩ xs) (j : Nat) (x : α) :
  Ow (Kd.scalar enc h1) e (w.setCell ⟨gb, j, none⟩ (enc x)) own t ⟨some ⟨gb, 0, none⟩, n, c⟩ (xs.set j x) ∧ Kp (fun q => q = t) w own (w.setCell ⟨gb, j, none⟩ (enc x)) own := by
 obtain ⟨a, b⟩ := Kd.R_putg h (j : Int) x
 rw [Int.toNat_natCast] at a b
 exact ⟨a, b.os, b.tape, b.output, b.size, fun k hk hn => ⟨rfl, b.block k hk (fun e => hn (by injection e with e; rw [e]; exact (ow_blk h gb rfl).1))⟩⟩
theorem ow_cell {α : Type} {enc : α → Value} {h1 : ∀ x, (enc x).oneCell' = true} {e : Nat} {w : World} {own : Nat → Nat} {t gb n c : Nat} {xs : List α} (h : Ow (Kd.scalar enc h1) e w own t ⟨some ⟨gb, 0, none⟩, n, c⟩ xs) (j : Nat) (x : α) (hx : xs[j]? = some x) :
  w.cell? ⟨gb, j, none⟩ = some (enc x) ∧ w.frozen? ⟨gb, j, none⟩ = false ∧ gb < w.heap.size := by
 obtain ⟨l1, l2, l3⟩ := ow_len h
 have hj : j < n := by
  have h2 := (List.getElem?_eq_some_iff.1 hx).1
  simp at l1
  omega
 obtain ⟨ad, ha, hc⟩ := sc_at l3 j hj x hx
 injection ha with ha
 subst ha
 rw [add_plain] at hc
 refine ⟨hc, ?_, (ow_blk h gb rfl).2⟩
 obtain ⟨cells, hcc⟩ := Kd.R_typed h gb rfl
 simp [World.frozen?, hcc]
def Marked (p : Prop) : Prop := p
theorem sorry_mark {p : Prop} (h : Marked p) : p := h
theorem Rd.ret {α : Type} {d : Kd α} {w : World} {own : Nat → Nat} {t : Nat} {s : Sl} {xs : List α} (h : Rd d w own t s xs) (t' : Nat) : Rd d w (ret own t t') t' s xs := ⟨h.1, h.2.1, fun a ha hn => if_pos (h.2.2 a ha hn)⟩
theorem ow_cur {α : Type} {d : Kd α} {e : Nat} {w : World} {own : Nat → Nat} {t gb n c : Nat} {xs : List α} (h : Ow d e w own t ⟨some ⟨gb, 0, none⟩, n, c⟩ xs) : ∃ cur, w.heap[gb]? = some (.cells cur e (0, 0)) ∧ cur.size = c * d.sz ∧ n ≤ c := by
 obtain ⟨inner, ho⟩ := Kd.R_own h
 rcases ho.2 with ⟨hv, _⟩ | ⟨g, cap, cur, hv, hb, hh, hnc, hcm, hcs, _⟩
 · simp [Sl.enc] at hv
 ·
  simp only [Sl.enc, Value.slice.injEq, Option.some.injEq, Addr.mk.injEq] at hv
  obtain ⟨⟨rfl, _⟩, h2, rfl⟩ := hv
  exact ⟨cur, hh, hcs, by omega⟩
theorem take_set_succ {α : Type} {xs : List α} {k : Nat} (hk : k < xs.length) (x : α) : (xs.set k x).take (k + 1) = xs.take k ++ [x] := by
 rw [List.take_succ_eq_append_getElem (by simpa using hk), List.take_set, List.getElem_set_self]
 congr 1
 rw [List.set_eq_of_length_le (by rw [List.length_take]; exact Nat.min_le_left _ _)]
theorem r_head {α : Type} {d : Kd α} {e : Nat} {w : World} {base : Nat} {ok : Nat → Prop} {xs : List α} {ad : Addr} {n cap : Nat} (h : d.R e w base ok (.slice (some ad) n cap) xs) : ∃ g, ad = ⟨g, 0, none⟩ := by
 obtain ⟨_, inner, ho, hr⟩ := h
 rcases ho.2 with ⟨hv, _⟩ | ⟨g, cap', cur, hv, _⟩
 · cases hv
 ·
  injection hv with ha _ _
  injection ha with ha
  exact ⟨g, ha⟩
theorem ow_head {α : Type} {d : Kd α} {e : Nat} {w : World} {own : Nat → Nat} {t : Nat} {z : Sl} {xs : List α} (h : Ow d e w own t z xs) (hn : 0 < z.n) : ∃ gb, z = ⟨some ⟨gb, 0, none⟩, z.n, z.c⟩ := by
 obtain ⟨A, n, c⟩ := z
 obtain ⟨l1, l2, l3⟩ := ow_len h
 obtain ⟨ad, ha, _⟩ := l3.2.2 hn
 have ha' : A = some ad := ha
 subst ha'
 obtain ⟨gb, rfl⟩ := r_head h
 exact ⟨gb, rfl⟩
theorem R_keep {α : Type} {d : Kd α} {e : Nat} {ts : Nat → Prop} {w w' : World} {own own' : Nat → Nat} {base : Nat} {ok : Nat → Prop} {v : Value} {xs : List α} (h : d.R e w base ok v xs) (hk : Kp ts w own w' own') (ho : ∀ k, ok k → ¬ ts (own k)) : d.R e w' base ok v xs :=
  Kd.R_mono (Kd.R_move (Kd.R_bound h) (fun k hb => (hk.block k hb.2.2.1 (ho k hb.1)).2)) (fun k hb => hb.1)
end Go.Proofs.YtmofiicjaldmiaaGreatDoor.SvA
end
section
namespace Go.Proofs.YtmofiicjaldmiaaGreatDoor.SvB
open Go.RowKit Go.Shelf YtmofiicjaldmiaaGreatDoorW.PrintWords YtmofiicjaldmiaaGreatDoorW.PrintLast SvA
set_option linter.unusedVariables false
set_option linter.unusedSimpArgs false
attribute [local go_sem] Oper.semAt_some
abbrev WP := Int × Sl
def wrK : Kd WP := flatK 2 (fun p => [.int .i64 p.1, p.2.enc]) (fun _ => rfl) (fun x u hu => by simp only [List.mem_cons, List.mem_singleton, List.not_mem_nil, or_false] at hu; rcases hu with rfl | rfl <;> rfl)
def pd0 : WP := (0, nilS)
def back (ps : List WP) (k : Nat) : List (Nat × WP) := (List.range k).map (fun j => (ps.length - 1 - j, ps[ps.length - 1 - j]?.getD pd0))
theorem back_succ (ps : List WP) (k : Nat) : back ps (k + 1) = back ps k ++ [(ps.length - 1 - k, ps[ps.length - 1 - k]?.getD pd0)] := by simp [back, List.range_succ]
theorem back_length (ps : List WP) (k : Nat) : (back ps k).length = k := by simp [back]
def Wrs (n₀ : Nat) (W : World) (s : Sl) (ps : List WP) : Prop := s.n = ps.length ∧ (0 < s.n → ∃ b, s.A = some ⟨b, 0, none⟩ ∧ b < n₀ ∧ ∀ j, j < ps.length → W.cell? ⟨b, j * 2, none⟩ = some (.int .i64 (ps[j]?.getD pd0).1) ∧ W.cell? ⟨b, j * 2 + 1, none⟩ = some (ps[j]?.getD pd0).2.enc)
theorem Wrs.below {n₀ : Nat} {A B : World} (h : Below n₀ A B) {s : Sl} {ps : List WP} (k : Wrs n₀ A s ps) : Wrs n₀ B s ps :=
  ⟨k.1, fun hn => by obtain ⟨b, e, hb, hc⟩ := k.2 hn; exact ⟨b, e, hb, fun j hj => ⟨(h.cell (p := ⟨b, j * 2, none⟩) hb).trans (hc j hj).1, (h.cell (p := ⟨b, j * 2 + 1, none⟩) hb).trans (hc j hj).2⟩⟩⟩
theorem wrs_of {w : World} {own : Nat → Nat} {t e : Nat} {s : Sl} {ps : List WP} (h : Ow wrK e w own t s ps) : Wrs w.heap.size w s ps := by
 obtain ⟨l1, l2, l3⟩ := ow_len h
 refine ⟨l1.symm, fun hn => ?_⟩
 obtain ⟨gb, hg⟩ := ow_head h hn
 refine ⟨gb, by rw [hg], (ow_blk h gb (by rw [hg]; rfl)).2, fun j hj => ?_⟩
 obtain ⟨ad, c, e, _, hK, hc0⟩ := Kd.C_get l3 pd0 (j : Int) (by omega) (by omega)
 rw [hg] at e
 injection e with e
 subst e
 rw [Int.toNat_natCast, List.getD_eq_getElem?_getD] at hK
 have hK' : c = [.int .i64 (ps[j]?.getD pd0).1, (ps[j]?.getD pd0).2.enc] := hK
 subst hK'
 rw [Int.toNat_natCast] at hc0
 have h2 : wrK.sz = 2 := rfl
 have a := hc0 0 _ rfl
 have b := hc0 1 _ rfl
 rw [h2, add_plain] at a b
 exact ⟨a, b⟩
def KB (n₀ Bs : Nat) (W W' : World) : Prop := Below n₀ W W' ∧ W'.heap[Bs]? = W.heap[Bs]?
theorem KB.refl (n₀ Bs : Nat) (W : World) : KB n₀ Bs W W := ⟨Below.refl _ _, rfl⟩
theorem KB.trans {n₀ Bs : Nat} {A B C : World} (h : KB n₀ Bs A B) (k : KB n₀ Bs B C) : KB n₀ Bs A C := ⟨h.1.trans k.1, k.2.trans h.2⟩
def wArgs (x : Nat × WP) : Array Value := #[.int .i64 (x.1 : Int), .agg #[.int .i64 x.2.1, x.2.2.enc]]
set_option maxRecDepth 100000 in
set_option maxHeartbeats 2000000 in
theorem back1_in (F : Fence) (n : Nat) (h166 : F.fn 166) (hro : F.round = none) (hn : 1 ≤ n) (l Bs n₀ : Nat) (s : Sl) (ps : List WP) (hl : ps.length < 2 ^ 40) (J Jx : List (Nat × WP) → World → Prop)
  (hY : ∀ pre x W, J pre W → pre.length < ps.length → YieldAt F (n - 1) Tryz.prog l (wArgs x) W fun e W' =>
   (e = .returned (.bool true) ∧ J (pre ++ [x]) W' ∧ KB n₀ Bs W W') ∨ (e = .returned (.bool false) ∧ Jx (pre ++ [x]) W'))
  (W : World) (hc : W.cell? ⟨Bs, 0, none⟩ = some (.slice s.A s.n s.c)) (hI : Wrs n₀ W s ps) (h0 : J [] W) :
  CallsIn F n Tryz.prog 166 #[.func (.yield l) #[] #[], .pointer (some ⟨Bs, 0, none⟩)] W fun e W' => (∃ v, e = .returned v) ∧
   ((∃ ys, ys = back ps ps.length ∧ J ys W') ∨ (∃ pre, (∃ k, k ≤ ps.length ∧ pre = back ps k) ∧ Jx pre W')) := by
 refine callsIn_of_wp Tryz.func166 rfl h166 ?_ hro
 simp only [Tryz.ntmps166, List.size_toArray, List.length_cons, List.length_nil, Nat.reduceAdd, Nat.reduceSub, Array.replicate_succ, Array.replicate_zero, List.push_toArray, List.append_toArray, List.nil_append, List.cons_append]
 have hlen := hI.1
 gi_wp2
 gi_loopw [3] (fun i wr => ∃ k : Nat, k ≤ ps.length ∧ i = .int .i64 ((ps.length : Int) - 1 - k) ∧ J (back ps k) wr ∧ KB n₀ Bs W wr)
  (fun i _ => (intOf i + 1).toNat)
 case atStart => exact ⟨0, Nat.zero_le _, by simp, h0, KB.refl _ _ _⟩
 case round =>
  obtain ⟨k, hk, rfl, hJs, hnx⟩ := hrel
  have hcS : wr.cell? ⟨Bs, 0, none⟩ = some (.slice s.A s.n s.c) := (World.cell?_of_block (w := W) (a := ⟨Bs, 0, none⟩) hnx.2).trans hc
  by_cases hlt : k < ps.length
  ·
   obtain ⟨b, hA, hb, hcs⟩ := (hI.below hnx.1).2 (by omega)
   obtain ⟨c1, c2⟩ := hcs (ps.length - 1 - k) (by omega)
   obtain ⟨fn, tmps, assign, body, hy, hR⟩ := hY _ (ps.length - 1 - k, ps[ps.length - 1 - k]?.getD pd0) wr hJs (by rw [back_length]; exact hlt)
   generalize hp : ps[ps.length - 1 - k]?.getD pd0 = p at c1 c2 hy hR
   dsimp only [wArgs] at hy
   obtain ⟨sA, sn, sc⟩ := s
   dsimp only at hA hlen hcS
   subst hA
   have hm : (ps.length : Int) - 1 - k = ((ps.length - 1 - k : Nat) : Int) := by omega
   gi_wp2
   refine hR.mono ?_
   rintro e W3 (⟨rfl, hJ3, hk3⟩ | ⟨rfl, hJx3⟩)
   ·
    gi_wp2
    go_roundw
    case rel => exact ⟨k + 1, by omega, by simp; omega, by rw [back_succ, hp]; exact hJ3, hnx.trans hk3⟩
    case measure => simp [intOf]; omega
   ·
    gi_wp2
    refine bodyPost_ret (results_none rfl _ _ _) rfl ?_
    exact ⟨⟨_, rfl⟩, .inr ⟨_, ⟨k + 1, by omega, by rw [back_succ, hp]⟩, hJx3⟩⟩
  ·
   obtain rfl : k = ps.length := by omega
   gi_wp2
   go_end0
   exact ⟨⟨_, rfl⟩, .inl ⟨_, rfl, hJs⟩⟩
end Go.Proofs.YtmofiicjaldmiaaGreatDoor.SvB
end
section
namespace Go.Proofs.YtmofiicjaldmiaaGreatDoor.SvC
open Go.RowKit YtmofiicjaldmiaaGreatDoorW.PrintWords YtmofiicjaldmiaaGreatDoorW.PrintLast SvA SvB
set_option linter.unusedVariables false
set_option linter.unusedSimpArgs false
theorem info5 : (Tryz.prog.info? 5).map (fun i => (i.zero, i.size, i.bytes)) = some (some (.int .u8 0), 1, 1) := by kernel_rfl
abbrev u8K : Kd Int := Kd.int .u8
theorem u8K_K {w w1 : World} {x : Int} {cs : List Value} (h : u8K.K w x cs) : u8K.K w1 x cs := h
abbrev i64K : Kd Int := Kd.int .i64
theorem i64K_K {w w1 : World} {x : Int} {cs : List Value} (h : i64K.K w x cs) : i64K.K w1 x cs := h
theorem ba {w : World} (o : Obj) : Below w.heap.size w (w.alloc o) := (Below.refl _ w).alloc (Nat.le_refl _) _
theorem bdrew (B : Nat) (w : World) (n : Nat) : Below B w (w.drewN n) := ⟨rfl, rfl, rfl, Nat.le_refl _, fun _ _ => rfl⟩
theorem own_empty (W : World) (base : Nat) (ok : Nat → Prop) (hb : base ≤ W.heap.size) (h : ok W.heap.size) : OwnB (W.alloc (.cells #[] 5)) base ok (.slice (some ⟨W.heap.size, 0, none⟩) 0 0) [] :=
 ⟨fun k hk => by
  have : W.heap.size = k := by simpa [Value.ownBlock] using hk
  subst this
  exact h, OwnRow.lit W base (ps := []) (Reps.none _ _) hb (by simp)⟩
theorem app_bytes {ops : Array Oper} {rest : List Oper} {o : Oper} {a : Act} {Q : Exit → Act → World → Prop} {w0 W : World} (base : Nat) (hgd : o.guard = none) (s x : Operand)
  (ho : o.op = .call { callee := .builtin .append, args := #[s, x], argTypes := #[43, 43] }) (v : Value) (xs ys : List Int) (A : Option Addr) (m c : Nat) (ok : Nat → Prop) (hs : a.eval s = v) (hx : a.eval x = .slice A m c)
  (HO : OwnB W base ok v xs) (HR : BytesAt W A m ys) (hfresh : ∀ k, W.heap.size ≤ k → ok k) (HB : Below base w0 W) (hbase : base ≤ W.heap.size) (hl : xs.length + m ≤ 140737488355328)
  (h : ∀ v1 w1, OwnB w1 base ok v1 (xs ++ ys) → Below base w0 w1 → W.grownBy w1 v.ownBlock → (v1.ownBlock = v.ownBlock ∨ ∃ b, v1.ownBlock = some b ∧ W.heap.size ≤ b) → wpList Tryz.prog ops Q rest (a.put o.dst v1) w1) :
  wpList Tryz.prog ops Q (o :: rest) a W :=
 Kd.R_append_rows (Kd.int .u8) (Rr := (Kd.int .u8).K W) (w0 := w0) base hgd s x 43 5 (.int .u8 0) 1 ho Tryz.underlying43 info5 rfl (by decide) (by omega) v xs ys A m c ok (fun _ => False) hs hx HO HR (fun _ _ h => h) (fun _ h => h.elim) hfresh HB hbase (by omega) h
def ClonePost (w : World) (xs : List Int) (e : Ending) (w' : World) : Prop := ∃ v, e = .returned v ∧ OwnB w' w.heap.size (fun _ => True) v xs ∧ Below w.heap.size w w'
set_option maxRecDepth 100000 in
theorem clone_ok (A : Option Addr) (xs : List Int) (c : Nat) (w : World) (hx : BytesAt w A xs.length xs) (hbig : xs.length ≤ 140737488350000) : Calls Tryz.prog 62 #[.slice A xs.length c] w (ClonePost w xs) := by
 have hn := @Lib.run_eql_slice_nil Tryz.prog
 cases A with
 | none =>
  have h0 : xs = [] := by
   cases xs with
   | nil => rfl
   | cons x l =>
    obtain ⟨ad, e, _⟩ := BytesAt.at_ hx 0 (by simp)
    cases e
  subst h0
  go_enter Tryz.func62, Tryz.ntmps62
  go_wp2_with fail
  go_ret
  exact ⟨_, rfl, Kd.R_nil _ _ _ _ _, Below.refl _ _⟩
 | some ad =>
  have HX := Lib.hid hx
  clear hx
  go_enter Tryz.func62, Tryz.ntmps62
  go_wp2_with (at_builtin; refine app_bytes (w0 := w) w.heap.size rfl (.tmp 5) (.tmp 6) rfl _ [] xs (some ad) xs.length c (fun _ => True) rfl rfl (own_empty w w.heap.size _ (Nat.le_refl _) trivial) (BytesAt.below (B := 0) HX.out (ba _)) (fun _ _ => trivial) (ba _) (by simp) (by simp; omega) ?_; intro v1 w1 ho hb hg hat; clear hg hat)
  go_ret
  exact ⟨_, rfl, ho, hb⟩
theorem sector_ok (w : World) (A : Option Addr) (b n c i : Nat) (hA : A = some ⟨b, 0, none⟩) (hn : n ≤ c) (hc : n < 2 ^ 40) (hi : 512 * i + 512 ≤ n) : Calls Tryz.prog 63 #[.slice A n c, .int .i64 i] w fun e w' => e = .returned (.slice (some ⟨b, 512 * i, none⟩) 512 512) ∧ w = w' := by
 subst hA
 go_enter Tryz.func63, Tryz.ntmps63
 go_wp2_with fail
 go_ret
 refine ⟨?_, rfl⟩
 have e1 : (i + 1) * 512 - i * 512 = 512 := by omega
 rw [e1, Nat.mul_comm]
 rfl
theorem clip_ok (w : World) (A : Option Addr) (n c : Nat) (hn : n ≤ c) : Calls Tryz.prog 64 #[.slice A n c] w fun e w' => e = .returned (.slice A n n) ∧ w = w' := by
 go_enter Tryz.func64, Tryz.ntmps64
 go_wp2_with fail
 go_ret
 exact ⟨rfl, rfl⟩
theorem cellOf {w w1 : World} {a : Addr} {v : Value} (h : Below w.heap.size w w1) (hc : w.cell? a = some v) : w1.cell? a = some v :=
  (World.cell?_of_block (h.block a.block (World.block_lt_of_cell? _ _ hc))).trans hc
def noP (Q : Exit → Act → World → Prop) : Exit → Act → World → Prop
 | .panic _, _, _ => False
 | e, a, w => Q e a w
theorem wp_noP {P : Program} {c : Code} {Q : Exit → Act → World → Prop} {a : Act} {w : World} (h : c.wp P (noP Q) a w) : c.wp P Q a w := wp_mono h (by
 intro e a w h
 cases e <;> first | exact h.elim | exact h)
structure BS where
 safe : List Int
 pend : List (Int × List Int)
 lim : Bool
 left : Int
def secOf (img : List Int) (i : Nat) : List Int := (img.drop (512 * i)).take 512
def BS.read (b : BS) (i : Nat) : List Int := match b.pend.reverse.find? (fun q => q.1 == (i : Int)) with
 | some q => q.2
 | none => secOf b.safe i
def BS.full (b : BS) : Bool := b.lim && decide (b.left = 0)
def BS.put (b : BS) (i : Int) (d : List Int) : BS := { b with left := wrap64 (b.left - 1), pend := b.pend ++ [(i, d)] }
theorem C_cut {w : World} {b o n : Nat} {xs : List Int} (h : BytesAt w (some ⟨b, o, none⟩) n xs) (i m : Nat) (hm : i + m ≤ n) : BytesAt w (some ⟨b, o + i, none⟩) m ((xs.drop i).take m) := by
 obtain ⟨h1, h2, h3⟩ := h
 refine ⟨by rw [List.length_take, List.length_drop]; omega, by omega, fun hn => ⟨_, rfl, fun j p hj => ?_⟩⟩
 obtain ⟨ad, e, hc⟩ := h3 (by omega)
 injection e with e
 subst e
 have hj' : j < m := by
  have := (List.getElem?_eq_some_iff.1 hj).1
  rw [List.length_take] at this
  omega
 rw [List.getElem?_take_of_lt hj', List.getElem?_drop] at hj
 obtain ⟨c, hl, hK, hcell⟩ := hc (i + j) p hj
 refine ⟨c, hl, hK, fun q u hq => ?_⟩
 have := hcell q u hq
 have h1 : (Kd.int .u8).sz = 1 := rfl
 rw [h1] at this ⊢
 have e1 : ∀ x, (⟨b, o, none⟩ : Addr).add x = ⟨b, o + x, none⟩ := fun x => by unfold Addr.add; split <;> simp_all
 have e2 : ∀ x, (⟨b, o + i, none⟩ : Addr).add x = ⟨b, o + i + x, none⟩ := fun x => by unfold Addr.add; split <;> simp_all
 rw [e1] at this
 rw [e2]
 rw [show o + i + (j * 1 + q) = o + ((i + j) * 1 + q) from by omega]
 exact this
def BS.n (b : BS) : Nat := b.safe.length / 512
def Pd (w : World) (own : Nat → Nat) (ps : List WP) (qs : List (Int × List Int)) : Prop :=
  ps.length = qs.length ∧ ∀ (i : Nat) (p : WP) (q : Int × List Int), ps[i]? = some p → qs[i]? = some q → p.1 = q.1 ∧ Rd u8K w own 0 p.2 q.2 ∧ q.2.length = 512
def StA (w : World) (own : Nat → Nat) (t g : Nat) (b : BS) : Prop := ∃ (zs zp : Sl) (ps : List WP), own g = t ∧ Blk w g #[zs.enc, zp.enc, .bool b.lim, .int .i64 b.left] 89 ∧ Ow u8K 5 w own (t + 1) zs b.safe ∧ Ow wrK 121 w own (t + 2) zp ps ∧ Pd w own ps b.pend
theorem Pd.keep {ts : Nat → Prop} {w w' : World} {own own' : Nat → Nat} {ps : List WP} {qs : List (Int × List Int)} (h : Pd w own ps qs) (hk : Kp ts w own w' own') (h0 : ¬ ts 0) : Pd w' own' ps qs :=
  ⟨h.1, fun i p q hp hq => by obtain ⟨a, b, c⟩ := h.2 i p q hp hq; exact ⟨a, b.keep u8K_K (by decide) hk h0, c⟩⟩
theorem StA.keep {ts : Nat → Prop} {w w' : World} {own own' : Nat → Nat} {t g : Nat} {b : BS} (h : StA w own t g b) (hk : Kp ts w own w' own') (h0 : ¬ ts 0) (h1 : ¬ ts t) (h2 : ¬ ts (t + 1)) (h3 : ¬ ts (t + 2)) : StA w' own' t g b := by
 obtain ⟨zs, zp, ps, hg, hb, hs, hp, hd⟩ := h
 obtain ⟨a1, a2⟩ := hb.keep hk (by rw [hg]; exact h1)
 exact ⟨zs, zp, ps, a2.trans hg, a1, hs.keep hk h2, hp.keep hk h3, hd.keep hk h0⟩
theorem sectors_ok (w : World) (g : Nat) (zs : Sl) (a b c : Value) (h : Blk w g #[zs.enc, a, b, c] 89) (hz : zs.n < 2 ^ 40) : Calls Tryz.prog 22 #[pt g] w fun e w' => e = .returned (.int .i64 ((zs.n / 512 : Nat) : Int)) ∧ w = w' := by
 have h1 : w.cell? ⟨g, 0, none⟩ = some (.slice zs.A zs.n zs.c) := Blk.cell (i := 0) h rfl
 go_enter Tryz.func22, Tryz.ntmps22
 go_wp2_with fail
 go_ret
 refine ⟨?_, rfl⟩
 rfl
theorem is_ok (w : World) (g : Nat) (zs : Sl) (a b c : Value) (i : Int) (h : Blk w g #[zs.enc, a, b, c] 89) (hz : zs.n < 2 ^ 40) : Calls Tryz.prog 108 #[pt g, .int .i64 i] w fun e w' => e = .returned (.bool (decide (0 ≤ i ∧ i < (zs.n / 512 : Nat)))) ∧ w = w' := by
 have H := Lib.hid h
 have hs : zs.n / 512 < 2 ^ 40 := by omega
 have hc := sectors_ok w g zs a b c h hz
 generalize zs.n / 512 = m at hc hs ⊢
 clear h
 go_enter Tryz.func108, Tryz.ntmps108
 go_wp2_with (go_at_call 22; refine hc.mono ?_; rintro e w' ⟨rfl, rfl⟩)
 ·
  go_ret
  rename_i h0
  have e1 : decide (0 ≤ i ∧ i < (m : Int)) = decide (i < (m : Int)) := decide_eq_decide.2 ⟨fun h => h.2, fun h => ⟨h0, h⟩⟩
  rw [e1]
  exact ⟨rfl, rfl⟩
 ·
  go_ret
  rename_i h0
  refine ⟨?_, rfl⟩
  have e1 : decide (0 ≤ i) = false := decide_eq_false (by omega)
  rw [e1]
  rfl
end Go.Proofs.YtmofiicjaldmiaaGreatDoor.SvC
end
section
namespace Go.Proofs.YtmofiicjaldmiaaGreatDoor.SvD
open Go.RowKit Go.Shelf YtmofiicjaldmiaaGreatDoorW.PrintWords YtmofiicjaldmiaaGreatDoorW.PrintLast SvA SvB SvC
set_option linter.unusedVariables false
set_option linter.unusedSimpArgs false
attribute [local go_sem] Oper.semAt_some
set_option maxHeartbeats 2000000 in
theorem backward_ok (a : Option Addr) (n c : Nat) (w : World) : Calls Tryz.prog 164 #[.slice a n c] w fun e w' => e = .returned (.func (.func 166) #[] #[.pointer (some ⟨w.heap.size, 0, none⟩)]) ∧ w.alloc (.cells #[.slice a n c] 87) = w' := by
 go_enter Tryz.func164, Tryz.ntmps164
 go_wp2_with fail
 go_ret
 exact ⟨rfl, rfl⟩
theorem back_stops (n : Nat) (hn : 1 ≤ n) (Bs n₀ : Nat) (s : Sl) (ps : List WP) (hl : ps.length < 2 ^ 40) (w : World) (hB : Bs < w.heap.size) (hn₀ : n₀ ≤ w.heap.size)
  (hc : w.cell? ⟨Bs, 0, none⟩ = some (.slice s.A s.n s.c)) (hI : Wrs n₀ w s ps) :
  SeqStopsK Fence.wide n Tryz.prog 166 #[.pointer (some ⟨Bs, 0, none⟩)] wArgs (KB n₀ Bs) (fun ys => ys = back ps ps.length) (fun pre => ∃ k, k ≤ ps.length ∧ pre = back ps k) ps.length w := fun l J Jx W hW _ _ hY h0 =>
 back1_in Fence.wide n trivial rfl hn l Bs n₀ s ps hl J Jx hY W ((hW.cell (p := ⟨Bs, 0, none⟩) hB).trans hc) (hI.below (hW.mono hn₀)) h0
theorem blk_own (B : Nat) (t : TypeId) (cs : Array Value) : Own (fun (_ : Unit) W => Blk W B cs t) := fun s X Y row hs hg hrow =>
  (hg.block B (Blk.lt hs) (fun e' => by obtain ⟨o, ho, hc⟩ := hrow B e'.symm; rw [show X.heap[B]? = _ from hs] at ho; cases ho; cases hc)).trans hs
def IRd (w : World) (p0 : Nat) (zb k : Nat) (zp : Sl) (W : World) : Prop := ((Boxed W (p0 + 1) 43 (.slice (some ⟨zb, 512 * k, none⟩) 512 512) ∧ Boxed W p0 3 (.int .i64 (k : Int))) ∧ Boxed W (p0 + 2) 87 (.slice zp.A zp.n zp.c)) ∧ Below p0 w W
theorem clone_n (A : Option Addr) (n c : Nat) (xs : List Int) (w : World) (hx : BytesAt w A n xs) (hbig : n ≤ 140737488350000) : Calls Tryz.prog 62 #[.slice A n c] w fun e w' => ∃ B m, e = .returned (.slice B n m) ∧ n ≤ m ∧ BytesAt w' B n xs ∧ (∀ a, B = some a → w.heap.size ≤ a.block) ∧ Below w.heap.size w w' := by
 obtain rfl := BytesAt.len hx
 refine (clone_ok A xs c w hx hbig).mono ?_
 rintro e w' ⟨v, rfl, ho, hb⟩
 obtain ⟨B, m, rfl, h1, h2⟩ := Kd.R_reads ho
 refine ⟨B, m, rfl, h1, h2, fun a ha => ?_, hb⟩
 have := (Kd.R_bound ho).1 a.block (by rw [ha]; rfl)
 exact this.2.1
def ReadP (w : World) (b : BS) (k : Nat) (e : Ending) (w' : World) : Prop := ∃ A, e = .returned (.tuple #[.slice A 512 512, .int .i64 0]) ∧ BytesAt w' A 512 (b.read k) ∧ (∀ a, A = some a → w.heap.size ≤ a.block) ∧ Below w.heap.size w w'
theorem back_map (ps : List WP) (j : Nat) (hj : j ≤ ps.length) : (back ps j).map (·.2) = ps.reverse.take j := by
 apply List.ext_getElem?
 intro i
 by_cases hi : i < j
 ·
  rw [List.getElem?_take_of_lt hi, List.getElem?_reverse (by omega)]
  simp only [back, List.map_map, List.getElem?_map, List.getElem?_range hi, Option.map_some, Function.comp]
  rw [List.getElem?_eq_getElem (by omega)]
  rfl
 · rw [List.getElem?_eq_none (by simp [back]; omega), List.getElem?_eq_none (by simp; omega)]
theorem pd_rev {w : World} {own : Nat → Nat} {ps : List WP} {qs : List (Int × List Int)} (h : Pd w own ps qs) (i : Nat) (p : WP) (q : Int × List Int) (hp : ps.reverse[i]? = some p) (hq : qs.reverse[i]? = some q) : p.1 = q.1 ∧ Rd u8K w own 0 p.2 q.2 ∧ q.2.length = 512 := by
 have h1 := (List.getElem?_eq_some_iff.1 hp).1
 have h2 := (List.getElem?_eq_some_iff.1 hq).1
 rw [List.length_reverse] at h1 h2
 rw [List.getElem?_reverse h1] at hp
 rw [List.getElem?_reverse h2, ← h.1] at hq
 exact h.2 _ p q hp hq
theorem read_none {w : World} {own : Nat → Nat} {ps : List WP} {b : BS} {k : Nat} (h : Pd w own ps b.pend) (hx : ∀ x ∈ back ps ps.length, x.2.1 ≠ (k : Int)) : b.read k = secOf b.safe k := by
 have hm := back_map ps ps.length (Nat.le_refl _)
 rw [List.take_of_length_le (by simp)] at hm
 have : b.pend.reverse.find? (fun q => q.1 == (k : Int)) = none := by
  rw [List.find?_eq_none]
  intro q hq
  obtain ⟨i, hi⟩ := List.getElem?_of_mem hq
  have hil := (List.getElem?_eq_some_iff.1 hi).1
  rw [List.length_reverse, ← h.1] at hil
  have hil2 : i < ps.reverse.length := by simpa using hil
  have hp : ps.reverse[i]? = some ps.reverse[i] := List.getElem?_eq_getElem hil2
  obtain ⟨e1, _⟩ := pd_rev h i _ _ hp hi
  have hmem : ps.reverse[i] ∈ (back ps ps.length).map (·.2) := by rw [hm]; exact List.getElem_mem _
  obtain ⟨x, hx1, hx2⟩ := List.mem_map.1 hmem
  have := hx x hx1
  rw [hx2, e1] at this
  simpa using this
 unfold BS.read
 rw [this]
theorem read_some {w : World} {own : Nat → Nat} {ps : List WP} {b : BS} {k j : Nat} {ini : List (Nat × WP)} {last : Nat × WP} (h : Pd w own ps b.pend) (hj : j ≤ ps.length) (he : back ps j = ini ++ [last]) (hx : ∀ x ∈ ini, x.2.1 ≠ (k : Int)) (hl : last.2.1 = (k : Int)) : Rd u8K w own 0 last.2.2 (b.read k) ∧ (b.read k).length = 512 := by
 have hm := back_map ps j hj
 rw [he, List.map_append] at hm
 have hlen : ini.length + 1 = j := by
  have := congrArg List.length he
  rw [back_length, List.length_append, List.length_singleton] at this
  omega
 have hg : ∀ i, i < j → ps.reverse[i]? = (ini.map (·.2) ++ [last.2])[i]? := fun i hi => by
  have := congrArg (fun l => l[i]?) hm
  simp only [List.getElem?_take_of_lt hi] at this
  exact this.symm
 have hpl : ps.reverse[ini.length]? = some last.2 := by
  rw [hg _ (by omega), List.getElem?_append_right (by simp)]
  simp
 have hql : ini.length < b.pend.reverse.length := by rw [List.length_reverse, ← h.1]; omega
 obtain ⟨e1, e2, e3⟩ := pd_rev h _ _ _ hpl (List.getElem?_eq_getElem hql)
 have hf : b.pend.reverse.find? (fun q => q.1 == (k : Int)) = some b.pend.reverse[ini.length] := by
  rw [List.find?_eq_some_iff_getElem]
  refine ⟨by rw [← e1, hl]; simp, ini.length, hql, rfl, fun i hi => ?_⟩
  have hil : i < b.pend.reverse.length := by omega
  have hp : ps.reverse[i]? = some ini[i].2 := by
   rw [hg _ (by omega), List.getElem?_append_left (by simpa using hi), List.getElem?_map, List.getElem?_eq_getElem hi]
   rfl
  obtain ⟨f1, _⟩ := pd_rev h _ _ _ hp (List.getElem?_eq_getElem hil)
  have := hx _ (List.getElem_mem hi)
  rw [f1] at this
  simpa using this
 unfold BS.read
 rw [hf]
 exact ⟨e2, e3⟩
theorem read_end {w W w' : World} {b : BS} {k D p0 : Nat} {B : Option Addr} (hp0 : p0 = w.heap.size) (hB : Below p0 w W) (hD : w.heap.size ≤ D) (hK : W.heap[D]? = some (.deferred (some []))) (f2 : BytesAt w' B 512 (b.read k)) (f3 : ∀ a, B = some a → W.heap.size ≤ a.block) (f4 : Below W.heap.size W w') :
  w'.heap[D]? = some (.deferred (some [])) ∧ ReadP w b k (.returned (.tuple #[.slice B 512 512, .int .i64 0])) (w'.putObj D (.deferred none)) := by
 subst hp0
 have hDl := (Array.getElem?_eq_some_iff.1 hK).1
 have hK' : w'.heap[D]? = some (.deferred (some [])) := (f4.block D hDl).trans hK
 have hB2 : Below w.heap.size w (w'.putObj D (.deferred none)) := (hB.trans (f4.mono hB.size)).trans (belowK_b (w := w) (Nat.le_refl _) _ D _ _ hD hK' rfl rfl)
 refine ⟨hK', B, rfl, C_move u8K_K f2 (by decide) (fun a ha _ => World.putObj_heap_other (fun e => by have := f3 a ha; omega)), fun a ha => ?_, hB2⟩
 have := f3 a ha
 have := hB.size
 omega
set_option maxRecDepth 100000 in
set_option maxHeartbeats 4000000 in
theorem read_ok (w : World) (own : Nat → Nat) (t g : Nat) (b : BS) (H : StA w own t g b) (k : Nat) (hi : k < b.n) (hz : b.safe.length < 2 ^ 40) (hzc9 : True) (hp : b.pend.length < 2 ^ 40) :
  Calls Tryz.prog 157 #[pt g, .int .i64 (k : Int)] w (ReadP w b k) := by
 obtain ⟨zs, zp, ps, hg, hb, hs, hpe, hd⟩ := H
 have hzl := (ow_len hs).1
 have hnz : 512 * k + 512 ≤ zs.n := by unfold BS.n at hi; rw [hzl] at hi; omega
 obtain ⟨zb, hzb⟩ := ow_head hs (by omega)
 obtain ⟨zA, zn, zc⟩ := zs
 dsimp only at hzb hzl hnz
 injection hzb with hzb
 subst hzb
 have hzc : zn ≤ zc := (ow_len hs).2.1
 have hkz : 512 * k + 512 ≤ zn := hnz
 have HB := Lib.hid hb
 have hc := fun W (hB : Blk W g #[(Sl.mk (some ⟨zb, 0, none⟩) zn zc).enc, zp.enc, .bool b.lim, .int .i64 b.left] 89) => is_ok W g _ _ _ _ (k : Int) hB (by show zn < 2 ^ 40; omega)
 have hdec : decide (0 ≤ (k : Int) ∧ (k : Int) < (((Sl.mk (some ⟨zb, 0, none⟩) zn zc).n / 512 : Nat) : Int)) = true := decide_eq_true (by show 0 ≤ (k : Int) ∧ (k : Int) < ((zn / 512 : Nat) : Int); omega)
 rw [hdec] at hc
 clear hb
 refine (callsIn_wide (n := 3)).1 ?_
 refine callsIn_of_wp_marks Tryz.func157 rfl trivial ?_ rfl
 refine wpIn_wide.2 ?_
 refine wp_noP ?_
 simp only [Tryz.ntmps157, List.size_toArray, List.length_cons, List.length_nil, Nat.reduceAdd, Nat.reduceSub, Array.replicate_succ, Array.replicate_zero, List.push_toArray, List.append_toArray, List.nil_append, List.cons_append]
 go_upto_region 3 with (go_at_call 108; refine (hc _ (HB.out.below (ba _))).mono ?_; rintro e w' ⟨rfl, rfl⟩)
 have HB0 := Lib.hid (HB.out.below (ba (Obj.cells #[Value.int IntKind.i64 ↑k] 3)))
 have hbn : Blk (w.alloc (Obj.cells #[Value.int IntKind.i64 ↑k] 3)) w.heap.size #[.int .i64 (k : Int)] 3 := blkNew rfl
 have hW1 : Below w.heap.size w (w.alloc (Obj.cells #[Value.int IntKind.i64 ↑k] 3)) := ba _
 have hsz : (w.alloc (Obj.cells #[Value.int IntKind.i64 ↑k] 3)).heap.size = w.heap.size + 1 := by simp
 generalize w.alloc (Obj.cells #[Value.int IntKind.i64 ↑k] 3) = W0 at *
 obtain ⟨p0, hp0⟩ : ∃ p0, p0 = w.heap.size := ⟨_, rfl⟩
 rw [← hp0]
 rw [← hp0] at hbn
 have HP0 := Lib.hid hp0
 clear hp0
 have c0 : W0.drew.cell? ⟨p0, 0, none⟩ = some (.int .i64 (k : Int)) := Blk.cell (i := 0) hbn rfl
 have c1 : W0.drew.cell? ⟨g, 0, none⟩ = some (.slice (some ⟨zb, 0, none⟩) zn zc) := Blk.cell (i := 0) HB0.out rfl
 clear hc hdec
 refine start_ (n := 8) (S := fun w' => w'.cell? ⟨p0, 0, none⟩ = some (.int .i64 (k : Int)) ∧ w'.cell? ⟨g, 0, none⟩ = some (.slice (some ⟨zb, 0, none⟩) zn zc)) (ds := [7]) #[false, false, false, false, false, false, false, false] (by kernel_rfl) rfl rfl ⟨c0, c1⟩ (fun hHeld => ?_)
 refine pure_ (i := 0) (N := some 13) (v := ?_) (a' := ?_) #[true, false, false, false, false, false, false, false] rfl rfl (by kernel_rfl) (fun _ _ _ h => h) (Or.inl ⟨by rfl, ?_⟩) ?_ ?_
 rotate_left
 · (intro w'; go_simp; with_reducible rfl)
 rotate_left
 · (simp only [put_s, List.set, i64_w, i32_w]; rfl)
 refine pure_ (i := 1) (N := some 14) (v := ?_) (a' := ?_) #[true, true, false, false, false, false, false, false] rfl rfl (by kernel_rfl) (fun _ _ _ h => h) (Or.inl ⟨by rfl, ?_⟩) ?_ ?_
 rotate_left
 · (intro w'; go_simp; with_reducible rfl)
 rotate_left
 · (simp only [put_s, List.set, i64_w, i32_w]; rfl)
 refine pure_ (i := 2) (N := some 15) (v := ?_) (a' := ?_) #[true, true, true, false, false, false, false, false] rfl rfl (by kernel_rfl) (fun _ _ _ h => h) (Or.inl ⟨by rfl, ?_⟩) ?_ ?_
 rotate_left
 · (intro w'; go_simp; with_reducible rfl)
 rotate_left
 · (simp only [put_s, List.set, i64_w, i32_w]; rfl)
 refine take_ (i := 3) (N := some 16) (v := ?_) (a' := ?_) #[true, true, true, true, false, false, false, false] rfl rfl (by kernel_rfl) (fun _ _ _ h => h) (Or.inl ⟨by rfl, ?_⟩) hHeld ?_ ?_
 rotate_left
 ·
  intro w' s0
  obtain ⟨q1, q2⟩ := s0
  go_simp
  with_reducible rfl
 rotate_left
 · (simp only [put_s, List.set, i64_w, i32_w]; rfl)
 refine take_ (i := 4) (N := some 17) (v := ?_) (a' := ?_) #[true, true, true, true, true, false, false, false] rfl rfl (by kernel_rfl) (fun _ _ _ h => h) (Or.inl ⟨by rfl, ?_⟩) hHeld ?_ ?_
 rotate_left
 ·
  intro w' s0
  obtain ⟨q1, q2⟩ := s0
  go_simp
  with_reducible rfl
 rotate_left
 · (simp only [put_s, List.set, i64_w, i32_w]; rfl)
 refine join_ 1 #[true, true, true, true, true, true, true, false] (fun (_u : Unit) => [(18, .slice (some ⟨zb, 512 * k, none⟩) 512 512), (6, .pointer (some ⟨W0.drew.heap.size, 0, none⟩))]) (fun (_u : Unit) w' => w' = W0.drew.alloc (.cells #[.slice none 0 0] 43)) ?_ ?_
 rotate_left
 ·
  intro hJ
  refine two_ (i := 5) (j := 6) (Ni := some 18) (Nj := some 6) #[true, true, true, true, true, true, false, false] #[true, true, true, true, true, false, true, false] rfl rfl rfl rfl (by kernel_rfl) (by decide) (by decide) (fun K hK => ?_) (fun K hK => ?_)
  ·
   refine goes_ Tryz.func63 (by kernel_rfl) rfl #[.slice (some ⟨zb, 0, none⟩) zn zc, .int .i64 (k : Int)] (by rfl) rfl rfl (by first | rfl | (simp [Act.eval])) ?_
   refine Calls.mono (sector_ok _ _ zb zn zc k rfl hzc (by omega) hkz) ?_
   rintro e w' ⟨rfl, rfl⟩
   refine ⟨_, rfl, ?_⟩
   refine hK.out _ _ hHeld (fun hHeld => ?_)
   clear hK K
   refine norm_ (a' := ?_) ?_ ?_
   rotate_left
   ·
    show Act.put _ (some 18) _ = _
    simp only [put_s, List.set, i64_w, i32_w]
    rfl
   refine one_ (i := 6) (N := some 6) #[true, true, true, true, true, true, true, false] rfl rfl (by kernel_rfl) (by decide) (fun K hK => ?_)
   refine value_ (v := .pointer (some ⟨W0.drew.heap.size, 0, none⟩)) (w1 := W0.drew.alloc (.cells #[.slice none 0 0] 43)) (by rfl) rfl (by go_simp) ?_
   refine hK.out _ _ ⟨cellOf (ba _) hHeld.1, cellOf (ba _) hHeld.2⟩ (fun hHeld => ?_)
   clear hK K
   refine norm_ (a' := ?_) ?_ ?_
   rotate_left
   ·
    show Act.put _ (some 6) _ = _
    simp only [put_s, List.set, i64_w, i32_w]
    rfl
   exact hJ () _ rfl
  ·
   refine value_ (v := .pointer (some ⟨W0.drew.heap.size, 0, none⟩)) (w1 := W0.drew.alloc (.cells #[.slice none 0 0] 43)) (by rfl) rfl (by go_simp) ?_
   refine hK.out _ _ ⟨cellOf (ba _) hHeld.1, cellOf (ba _) hHeld.2⟩ (fun hHeld => ?_)
   clear hK K
   refine norm_ (a' := ?_) ?_ ?_
   rotate_left
   ·
    show Act.put _ (some 6) _ = _
    simp only [put_s, List.set, i64_w, i32_w]
    rfl
   refine one_ (i := 5) (N := some 18) #[true, true, true, true, true, true, true, false] rfl rfl (by kernel_rfl) (by decide) (fun K hK => ?_)
   refine goes_ Tryz.func63 (by kernel_rfl) rfl #[.slice (some ⟨zb, 0, none⟩) zn zc, .int .i64 (k : Int)] (by rfl) rfl rfl (by first | rfl | (simp [Act.eval])) ?_
   refine Calls.mono (sector_ok _ _ zb zn zc k rfl hzc (by omega) hkz) ?_
   rintro e w' ⟨rfl, rfl⟩
   refine ⟨_, rfl, ?_⟩
   refine hK.out _ _ hHeld (fun hHeld => ?_)
   clear hK K
   refine norm_ (a' := ?_) ?_ ?_
   rotate_left
   ·
    show Act.put _ (some 18) _ = _
    simp only [put_s, List.set, i64_w, i32_w]
    rfl
   exact hJ () _ rfl
 rintro _ w' rfl
 refine norm_ (a' := ?_) ?_ ?_
 rotate_left
 ·
  simp only [putAll, Act.put, List.setIfInBounds_toArray, List.set_cons_zero, List.set_cons_succ]
  rfl
 refine last_ (i := 7) (N := none) #[true, true, true, true, true, true, true, true] rfl rfl (by kernel_rfl) (by decide) (fun K hK => ?_)
 refine skip_ (w1 := (W0.drew.alloc (.cells #[.slice none 0 0] 43)).setCell ⟨W0.drew.heap.size, 0, none⟩ (.slice (some ⟨zb, 512 * k, none⟩) 512 512)) (by rfl) rfl (by go_simp) ?_
 refine hK.out _ _ ?_
 clear hK K
 refine done_ (by kernel_rfl) ?_
 have hp1 : W0.drew.heap.size = p0 + 1 := by rw [HP0.out]; exact hsz
 rw [hp1]
 have hW1a : Below w.heap.size w (W0.drew.alloc (.cells #[.slice none 0 0] 43)) := (hW1.drew).alloc hW1.drew.size _
 have hb1 : Boxed (W0.drew.alloc (.cells #[.slice none 0 0] 43)) (p0 + 1) 43 (.slice none 0 0) := by rw [← hp1]; exact Boxed.new _ _ _
 have hb0 : Boxed (W0.drew.alloc (.cells #[.slice none 0 0] 43)) p0 3 (.int .i64 (k : Int)) := Blk.below (w := W0.drew) hbn (ba _)
 have HB1 := Lib.hid (Blk.other (p := ⟨p0 + 1, 0, none⟩) (Blk.below (w := W0.drew) HB0.out (ba (.cells #[.slice none 0 0] 43))) (by have := Blk.lt HB.out; have := Blk.lt hbn; have := HP0.out; show g ≠ p0 + 1; omega) (.slice (some ⟨zb, 512 * k, none⟩) 512 512))
 have hb1' := hb1.set (.slice (some ⟨zb, 512 * k, none⟩) 512 512)
 have hb0' := hb0.other (B' := p0 + 1) (by omega) (.slice (some ⟨zb, 512 * k, none⟩) 512 512)
 have hW2 : Below w.heap.size w ((W0.drew.alloc (.cells #[.slice none 0 0] 43)).setCell ⟨p0 + 1, 0, none⟩ (.slice (some ⟨zb, 512 * k, none⟩) 512 512)) := hW1a.setCell (p := ⟨p0 + 1, 0, none⟩) (by have := HP0.out; show w.heap.size ≤ p0 + 1; omega) _
 have hsz2 : ((W0.drew.alloc (.cells #[.slice none 0 0] 43)).setCell ⟨p0 + 1, 0, none⟩ (.slice (some ⟨zb, 512 * k, none⟩) 512 512)).heap.size = p0 + 2 := by
  have : (W0.drew.alloc (.cells #[.slice none 0 0] 43)).heap.size = p0 + 2 := by rw [World.size_alloc, hp1]
  simp only [World.setCell]
  simpa using this
 clear hb1 hb0 hW1a hHeld c0 c1 hbn HB0 hp1
 generalize (W0.drew.alloc (.cells #[.slice none 0 0] 43)).setCell ⟨p0 + 1, 0, none⟩ (.slice (some ⟨zb, 512 * k, none⟩) 512 512) = W2 at *
 clear hW1 hsz
 have d1 : W2.cell? ⟨g, 1, none⟩ = some (.slice zp.A zp.n zp.c) := Blk.cell (i := 1) HB1.out rfl
 have HX0 := Lib.hid hb0'
 have HX1 := Lib.hid hb1'
 have HXW := Lib.hid hW2
 have HXS := Lib.hid hsz2
 clear hb0' hb1' hW2 hsz2
 go_wp2_with (go_at_call 164; refine (backward_ok _ _ _ _).mono ?_; rintro e w' ⟨rfl, rfl⟩)
 obtain ⟨W3, hW3⟩ : ∃ W3, W2.alloc (Obj.cells #[Value.slice zp.A zp.n zp.c] 87) = W3 := ⟨_, rfl⟩
 have h0 : IRd w p0 zb k zp W3 := by
  rw [← hW3]
  refine ⟨⟨⟨HX1.out.alloc _, HX0.out.alloc _⟩, ?_⟩, HP0.out ▸ HXW.out.alloc HXW.out.size _⟩
  rw [← HXS.out]
  exact Boxed.new _ _ _
 have hs3 : W3.heap.size = p0 + 3 := by rw [← hW3, World.size_alloc, HXS.out]
 have hB3 : Below p0 w W3 := h0.2
 rw [hW3, HXS.out]
 clear hW3 HXS HX0 HX1 HXW d1 HB1
 have hws : Wrs p0 W3 zp ps := (HP0.out ▸ wrs_of hpe).below hB3
 refine (wpIn_wide (n := 3)).1 ?_
 refine wpIn_rangeFunc_ownH (α := Nat × WP) rfl (by omega) (gf := 166) (lb := #[.pointer (some ⟨p0 + 2, 0, none⟩)]) rfl trivial (enters_of Tryz.func166 (by kernel_rfl) rfl)
  (back_stops 2 (by omega) (p0 + 2) p0 zp ps (by rw [hd.1]; exact hp) W3 (by omega) (by omega) h0.1.2.cell hws) KB.trans (fun W l o o' h1 h2 h3 h4 => ⟨belowK_b (w := W3) (by omega) W l o o' h1 h2 h3 h4, World.putObj_heap_other (by omega)⟩) (Below.refl _ _) (fun _ => rfl)
  (fun pre W => IRd w p0 zb k zp W ∧ ∀ x ∈ pre, x.2.1 ≠ (k : Int))
  (fun c pre W => (c = .exit 0 ∧ ∃ ini last, pre = ini ++ [last] ∧ (∀ x ∈ ini, x.2.1 ≠ (k : Int)) ∧ last.2.1 = (k : Int) ∧ Boxed W (p0 + 1) 43 last.2.2.enc) ∧ Below p0 w W)
  (OwnFrom.and (OwnFrom.and (OwnFrom.and (OwnFrom.and (Own.from (boxed_own _ _ (fun _ => _)) _) (Own.from (boxed_own _ _ (fun _ => _)) _)) (Own.from (boxed_own _ _ (fun _ => _)) _)) (ownFrom_below (by have := HP0.out; omega) (by omega))) (ownFrom_pure _ _))
  (fun c => OwnFrom.and (Own.from (fun s A B row hs hg hr => by obtain ⟨hc, ini, last, e1, e2, e3, e4⟩ := hs; exact ⟨hc, ini, last, e1, e2, e3, boxed_own (p0 + 1) 43 (fun (_ : Unit) => last.2.2.enc) () A B row e4 hg hr⟩) _) (ownFrom_below (by have := HP0.out; omega) (by omega)))
  ⟨h0, by simp⟩
  (fun x a' W => ∃ Bx, p0 + 2 < Bx ∧ Blk W Bx #[.int .i64 x.2.1, x.2.2.enc] 121 ∧ a' = { tmps := #[pt g, Value.int IntKind.i64 k, undef, Value.pointer (some ⟨p0, 0, none⟩), Value.slice none 0 0, Value.int IntKind.i64 0, Value.pointer (some ⟨p0 + 1, 0, none⟩), undef, .pointer (some ⟨Bx, 0, none⟩), pt g, Value.int IntKind.i64 k, Value.bool true, Value.bool false, pt g, Value.pointer (some ⟨g, 0, none⟩), Value.pointer (some ⟨g, 0, none⟩), Value.slice (some ⟨zb, 0, none⟩) zn zc, Value.int IntKind.i64 k, Value.slice (some ⟨zb, 512 * k, none⟩) 512 512, pt g, Value.pointer (some ⟨g, 0, none⟩), Value.pointer (some ⟨g, 1, none⟩), Value.slice zp.A zp.n zp.c, Value.func (Fn.func 166) #[] #[Value.pointer (some ⟨p0 + 2, 0, none⟩)], .int .i64 (x.1 : Int), .agg #[.int .i64 x.2.1, x.2.2.enc], undef, undef, undef, undef, undef, undef, undef, undef, undef], defers := [] })
  (fun x a' _ X Y row hs hg hr => by obtain ⟨Bx, h1, h2, h3⟩ := hs; exact ⟨Bx, h1, blk_own Bx 121 _ () X Y row h2 hg (fun r e => (hr r e).2), h3⟩)
  ?assign ?body ?done ?stop
 case assign =>
  rintro l pre x W K ⟨hI, hx⟩ hK
  obtain ⟨x1, x2, xA, xn, xc⟩ := x
  simp only [wArgs, Sl.enc]
  gi_wp2
  have hpw : p0 ≤ W.heap.size := by have := hI.1.1.2.lt; omega
  exact hK _ _ ((KeepsOthers.alloc _ _).from _) ⟨(Below.refl p0 W).alloc hpw _, Below.heap_alloc W _ _ hI.1.2.lt⟩ ⟨⟨⟨⟨hI.1.1.1.alloc _, hI.1.1.2.alloc _⟩, hI.1.2.alloc _⟩, hI.2.alloc hpw _⟩, hx⟩ ⟨W.heap.size, hI.1.2.lt, blkNew rfl, rfl⟩
 case body =>
  rintro l pre x a' W hl ⟨r, hr⟩ ⟨hI, hx⟩ ⟨Bx, hBx, bX, rfl⟩ hlt
  have e0 : W.cell? ⟨Bx, 0, none⟩ = some (.int .i64 x.2.1) := Blk.cell (i := 0) bX rfl
  have e1 : W.cell? ⟨Bx, 1, none⟩ = some (.slice x.2.2.A x.2.2.n x.2.2.c) := Blk.cell (i := 1) bX rfl
  have e2 := hI.1.1.2.cell
  have e3 := hI.1.1.1.cell
  have e4 := hI.1.1.1.frozen
  by_cases hk : x.2.1 = (k : Int)
  ·
   have hb : decide (x.2.1 = (k : Int)) = true := decide_eq_true hk
   gi_wp2
   exact ⟨(KeepsOthers.setCell _ _ _).from _, ⟨rfl, pre, x, rfl, hx, hk, hI.1.1.1.set _⟩, hI.2.setCell (p := ⟨p0 + 1, 0, none⟩) (by show p0 ≤ p0 + 1; omega) _⟩
  ·
   have hb : decide (x.2.1 = (k : Int)) = false := decide_eq_false hk
   gi_wp2
   exact ⟨KeepsFrom.refl _ _, KB.refl _ _ _, hI, fun y hy => (List.mem_append.1 hy).elim (hx y) (fun e => by simp at e; subst e; exact hk)⟩
 case done =>
  rintro D ys W hD rfl ⟨hI, hx⟩ hK
  have e3 := hI.1.1.1.cell
  have hrd : BytesAt W (some ⟨zb, 512 * k, none⟩) 512 (b.read k) := by
   rw [read_none hd hx]
   have h1 : BytesAt w (some ⟨zb, 0, none⟩) zn b.safe := (ow_len hs).2.2
   have h2 := C_cut h1 (512 * k) 512 hkz
   rw [Nat.zero_add] at h2
   exact C_move u8K_K h2 (by decide) (fun a ha _ => hI.2.block a.block (by injection ha with ha; subst ha; have := (ow_blk hs zb rfl).2; have := HP0.out; show zb < p0; omega))
  have HR := Lib.hid hrd
  clear hrd
  go_wp2_with (first | (go_at_call 62; refine (clone_n _ 512 _ (b.read k) _ HR.out (by omega)).mono ?_; rintro e w' ⟨B, m, rfl, f1, f2, f3, f4⟩) | (go_at_call 64; refine (clip_ok _ _ _ _ f1).mono ?_; rintro e w' ⟨rfl, rfl⟩))
  obtain ⟨g1, g2⟩ := read_end (b := b) (k := k) HP0.out hI.2 (by have := HP0.out; omega) hK f2 f3 f4
  exact ⟨by simp, .inl ⟨_, _, rfl, run_takeDeferred g1, _, by simp [results, Tryz.f157, go_sem], g2⟩⟩
 case stop =>
  rintro D c pre W hD ⟨j, hj, hbk⟩ ⟨⟨rfl, ini, last, q1, q2, q3, q4⟩, hB⟩ hK
  refine wpIn_wide.2 ?_
  obtain ⟨hr1, hr2⟩ := read_some hd hj (hbk.symm.trans q1) q2 q3
  obtain ⟨l0, l1, ⟨lA, ln, lc⟩⟩ := last
  dsimp only at hr1 q4
  have hln : ln = 512 := by have := hr1.1.1; dsimp only at this; omega
  subst hln
  have e3 : W.cell? ⟨p0 + 1, 0, none⟩ = some (.slice lA 512 lc) := q4.cell
  have HR := Lib.hid (show BytesAt W lA 512 (b.read k) from C_move u8K_K hr1.1 (by decide) (fun a ha hn => hB.block a.block (by have := C_lt hr1.1 (by decide) a ha hn; have := HP0.out; show a.block < p0; omega)))
  clear hr1
  go_wp2_with (first | (go_at_call 62; refine (clone_n _ 512 _ (b.read k) _ HR.out (by omega)).mono ?_; rintro e w' ⟨B, m, rfl, f1, f2, f3, f4⟩) | (go_at_call 64; refine (clip_ok _ _ _ _ f1).mono ?_; rintro e w' ⟨rfl, rfl⟩))
  obtain ⟨g1, g2⟩ := read_end (b := b) (k := k) HP0.out hB (by have := HP0.out; omega) hK f2 f3 f4
  exact ⟨by simp, .inl ⟨_, _, rfl, run_takeDeferred g1, _, by simp [results, Tryz.f157, go_sem], g2⟩⟩
end Go.Proofs.YtmofiicjaldmiaaGreatDoor.SvD
end
