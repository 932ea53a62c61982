import Derived.Shelf.GgClosure.StringsIndexFuncTop
import Derived.Lib.AppendStr
import Derived.Laws.EntriesVeiled
import Derived.Test.YtpflenaoplblkaaGAb
section
namespace Go.Proofs.Ytpflenaoplblkaa.ProC
open Go.RowKit YtpflenaoplblkaaW.PrintWords YtpflenaoplblkaaW.PrintLast ProA ProB
set_option linter.unusedVariables false
set_option linter.unusedSimpArgs false
theorem Blk.cell {w : World} {g i : Nat} {cs : Array Value} {t : TypeId} {v : Value} (h : Blk w g cs t) (hv : cs[i]? = some v) : w.cell? ⟨g, i, none⟩ = some v := by simp [World.cell?, h, hv]
theorem Blk.frozen {w : World} {g i : Nat} {cs : Array Value} {t : TypeId} (h : Blk w g cs t) : w.frozen? ⟨g, i, none⟩ = false := frozen_of_row _ _ _ _ _ h
theorem Blk.set {w : World} {g i : Nat} {cs : Array Value} {t : TypeId} (h : Blk w g cs t) (v : Value) : Blk (w.setCell ⟨g, i, none⟩ v) g (cs.setIfInBounds i v) t := heap_setCell_same _ _ _ _ _ _ h
theorem Blk.other {w : World} {g : Nat} {p : Addr} {cs : Array Value} {t : TypeId} (h : Blk w g cs t) (hp : g ≠ p.block) (v : Value) : Blk (w.setCell p v) g cs t := (Below.heap_setCell _ _ _ _ hp).trans h
structure Flds where
 kind : Int
 tn : Int
 n : Int
 m : Int
 name : ByteArray
 data : List Int
def Flds.cells (F : Flds) (dv : Value) : Array Value := #[.int .i64 F.kind, .int .i64 F.tn, .int .i64 F.n, .int .i64 F.m, .string F.name, dv]
abbrev FdAt (w : World) (f : Nat) (F : Flds) (dv : Value) : Prop := Blk w f (F.cells dv) 71
abbrev RdAt (w : World) (g : Nat) (A : Option Addr) (n c : Nat) : Prop := Blk w g #[.slice A n c] 99
abbrev pt (g : Nat) : Value := .pointer (some ⟨g, 0, none⟩)
theorem goesV {P : Program} {ops : Array Oper} {Q : Exit → Act → World → Prop} {oi : Oper} {N : Option Tmp} {a : Act} {w : World} {K : Act → World → Prop} {f : FuncId} {fn : Func} {aas : Array Operand} {ts : Array TypeId} {c : Operand} (cap : Array Value) (hf : P.funcs[f]? = some fn) (hname : (fn.name == "runtime.NumGoroutine") = false) (hb : fn.body.isSome = true) (args : Array Value)
  (hw : Region.wanted oi (yielded ops a.tmps) = true) (hN : oi.dst = N) (hop : oi.op = .call { callee := .value c, args := aas, argTypes := ts }) (hc : a.eval c = .func (.func f) #[] cap) (hargs : aas.map a.eval ++ cap = args)
  (h : Calls P f args w fun e w' => (∃ v, e = .returned v ∧ K (a.put N v) w') ∨ ∃ ch, e = .panicked ch ∧ Q (.panic ch) a w') : if Region.wanted oi (yielded ops a.tmps) = true then Oper.wp P oi a w K Q else K (a.put N undef) w := by
 rw [if_pos hw]
 subst hN
 have he := enters_ hf hname hb args w
 have hrun : (execOp a.eval oi).run P w = .ok (.enter f args) w := by
  unfold execOp
  subst hargs
  simp [hop, resolve, Deferred.ofValue, invoke, hc, he]
 unfold Oper.wp
 rw [hrun, Oper.upon_enter]
 refine h.mono fun e w'' hh => ?_
 rcases hh with ⟨v, rfl, hk⟩ | ⟨ch, rfl, hk⟩
 · exact hk
 · exact hk
set_option maxHeartbeats 2000000 in
set_option maxRecDepth 100000 in
theorem read_no_tenant (g f a b : Nat) (A : Option Addr) (n c k : Nat) (w : World)
  (h : RdAt w g A n c) (ha : Blk w a #[.int .i64 k] 3) (hb : Blk w b #[.func (Fn.func 41) #[] #[]] 93) (hk : n < k) :
  Calls Try.prog 63 #[pt g, pt f, pt a, pt b] w fun e w' => e = wrong 121 ∧ Tu [g] w w' := by
 have h1 : w.cell? ⟨a, 0, none⟩ = some (.int .i64 k) := Blk.cell (i := 0) ha rfl
 have h2 : w.cell? ⟨b, 0, none⟩ = some (.func (Fn.func 41) #[] #[]) := Blk.cell (i := 0) hb rfl
 go_enter Try.func63, Try.ntmps63
 go_wp2_with fail
 refine start_ (n := 8) (S := fun w' => w'.cell? ⟨a, 0, none⟩ = some (.int .i64 k) ∧ w'.cell? ⟨b, 0, none⟩ = some (.func (Fn.func 41) #[] #[])) (ds := [5]) #[false, false, false, false, false, false, false, false] (by kernel_rfl) rfl rfl ⟨h1, h2⟩ (fun hHeld => ?_)
 refine tk_ (i := 0) (N := some 6) (v := ?_) (a' := ?_) rfl rfl (by kernel_rfl) (fun _ _ _ h => h) (by rfl) ?_ hHeld ?_ ?_
 rotate_left
 · (intro w' s0; go_simp; with_reducible rfl)
 rotate_left
 · (simp only [put_s, List.set, i64_w, i32_w]; rfl)
 refine pu_ (i := 1) (N := some 7) (v := ?_) (a' := ?_) rfl rfl (by kernel_rfl) (fun _ _ _ h => h) (by rfl) ?_ ?_ ?_
 rotate_left
 · (intro w'; go_simp; with_reducible rfl)
 rotate_left
 · (simp only [put_s, List.set, i64_w, i32_w]; rfl)
 refine pu_ (i := 3) (N := some 9) (v := ?_) (a' := ?_) rfl rfl (by kernel_rfl) (fun _ _ _ h => h) (by rfl) ?_ ?_ ?_
 rotate_left
 · (intro w'; go_simp; with_reducible rfl)
 rotate_left
 · (simp only [put_s, List.set, i64_w, i32_w]; rfl)
 refine tk_ (i := 4) (N := some 10) (v := ?_) (a' := ?_) rfl rfl (by kernel_rfl) (fun _ _ _ h => h) (by rfl) ?_ hHeld ?_ ?_
 rotate_left
 · (intro w' s0; go_simp; with_reducible rfl)
 rotate_left
 · (simp only [put_s, List.set, i64_w, i32_w]; rfl)
 refine on_ (i := 2) (N := some 8) rfl rfl (by kernel_rfl) (by decide) (fun K hK => ?_)
 refine goesV #[] Try.func41 (by kernel_rfl) rfl #[pt f] (by rfl) rfl rfl rfl (by simp [Act.eval]) ?_
 with_reducible refine (tenantOf_any ..).mono ?_
 rintro e w2 ⟨rfl, rfl⟩
 refine .inl ⟨_, rfl, ?_⟩
 refine hK.out _ _ hHeld (fun hHeld => ?_)
 clear hK K
 refine norm_ (a' := ?_) ?_ ?_
 rotate_left
 ·
  show Act.put _ (some 8) _ = _
  simp only [put_s, List.set, i64_w, i32_w]
  rfl
 refine la_ (i := 5) (N := some 11) rfl rfl (by kernel_rfl) (by decide) (fun K hK => ?_)
 refine goesV #[] Try.func45 (by kernel_rfl) rfl #[pt g, .int .i64 k] (by rfl) rfl rfl rfl (by simp [Act.eval]) ?_
 refine Calls.mono (rnumber_no g A n c k _ h hk) ?_
 rintro e w2 ⟨rfl, rfl⟩
 exact .inr ⟨_, rfl, rfl, rfl, (Tu.refl _ _).drew⟩
set_option maxHeartbeats 2000000 in
set_option maxRecDepth 100000 in
theorem read_ok_tenant (g f a b : Nat) (A : Option Addr) (n c k : Nat) (w : World) (xs : List Int) (F : Flds) (dv : Value)
  (h : RdAt w g A n c) (hf : FdAt w f F dv) (ha : Blk w a #[.int .i64 k] 3) (hb : Blk w b #[.func (Fn.func 41) #[] #[]] 93)
  (hx : BytesAt w A n xs) (hu : u8s xs) (hg : ∀ a, A = some a → 0 < n → a.block ≠ g) (hk : k ≤ n) (hk4 : k ≤ 4) (hc : n ≤ c) (hgf : f ≠ g) :
  Calls Try.prog 63 #[pt g, pt f, pt a, pt b] w fun e w' =>
   e = .returned (.tuple #[]) ∧ RdAt w' g (adv A c k) (n - k) (c - k) ∧ FdAt w' f { F with tn := be (xs.take k) } dv ∧ Tu [g, f] w w' := by
 have h1 : w.cell? ⟨a, 0, none⟩ = some (.int .i64 k) := Blk.cell (i := 0) ha rfl
 have h2 : w.cell? ⟨b, 0, none⟩ = some (.func (Fn.func 41) #[] #[]) := Blk.cell (i := 0) hb rfl
 have hv1 : (F.cells dv)[1]? = some (.int .i64 F.tn) := rfl
 go_enter Try.func63, Try.ntmps63
 go_wp2_with fail
 refine start_ (n := 8) (S := fun w' => w'.cell? ⟨a, 0, none⟩ = some (.int .i64 k) ∧ w'.cell? ⟨b, 0, none⟩ = some (.func (Fn.func 41) #[] #[])) (ds := [5, 7]) #[false, false, false, false, false, false, false, false] (by kernel_rfl) rfl rfl ⟨h1, h2⟩ (fun hHeld => ?_)
 refine tk_ (i := 0) (N := some 6) (v := ?_) (a' := ?_) rfl rfl (by kernel_rfl) (fun _ _ _ h => h) (by rfl) ?_ hHeld ?_ ?_
 rotate_left
 · (intro w' s0; go_simp; with_reducible rfl)
 rotate_left
 · (simp only [put_s, List.set, i64_w, i32_w]; rfl)
 refine pu_ (i := 1) (N := some 7) (v := ?_) (a' := ?_) rfl rfl (by kernel_rfl) (fun _ _ _ h => h) (by rfl) ?_ ?_ ?_
 rotate_left
 · (intro w'; go_simp; with_reducible rfl)
 rotate_left
 · (simp only [put_s, List.set, i64_w, i32_w]; rfl)
 refine pu_ (i := 3) (N := some 9) (v := ?_) (a' := ?_) rfl rfl (by kernel_rfl) (fun _ _ _ h => h) (by rfl) ?_ ?_ ?_
 rotate_left
 · (intro w'; go_simp; with_reducible rfl)
 rotate_left
 · (simp only [put_s, List.set, i64_w, i32_w]; rfl)
 refine tk_ (i := 4) (N := some 10) (v := ?_) (a' := ?_) rfl rfl (by kernel_rfl) (fun _ _ _ h => h) (by rfl) ?_ hHeld ?_ ?_
 rotate_left
 · (intro w' s0; go_simp; with_reducible rfl)
 rotate_left
 · (simp only [put_s, List.set, i64_w, i32_w]; rfl)
 refine on_ (i := 2) (N := some 8) rfl rfl (by kernel_rfl) (by decide) (fun K hK => ?_)
 refine goesV #[] Try.func41 (by kernel_rfl) rfl #[pt f] (by rfl) rfl rfl rfl (by simp [Act.eval]) ?_
 with_reducible refine (tenantOf_any ..).mono ?_
 rintro e w2 ⟨rfl, rfl⟩
 refine .inl ⟨_, rfl, ?_⟩
 refine hK.out _ _ hHeld (fun hHeld => ?_)
 clear hK K
 refine norm_ (a' := ?_) ?_ ?_
 rotate_left
 ·
  show Act.put _ (some 8) _ = _
  simp only [put_s, List.set, i64_w, i32_w]
  rfl
 refine la_ (i := 5) (N := some 11) rfl rfl (by kernel_rfl) (by decide) (fun K hK => ?_)
 refine goesV #[] Try.func45 (by kernel_rfl) rfl #[pt g, .int .i64 k] (by rfl) rfl rfl rfl (by simp [Act.eval]) ?_
 refine Calls.mono (rnumber_ok g A n c k _ xs h hx hu hg hk hk4 hc) ?_
 rintro e w2 ⟨rfl, hw2⟩
 have hb2 : FdAt w2 f F dv := by rw [← hw2]; exact Blk.other hf hgf _
 have hc2 := Blk.cell hb2 hv1
 have hz2 := Blk.frozen (i := 1) hb2
 have hg2 : RdAt w2 g (adv A c k) (n - k) (c - k) := by rw [← hw2]; exact Blk.set (i := 0) h _
 have ht2 : Tu [g] w w2 := by rw [← hw2]; exact ((Tu.refl _ _).drew).setCell (.inl (by simp)) _
 clear hw2
 refine .inl ⟨_, rfl, ?_⟩
 refine hK.out _ _ ?_
 clear hK K
 refine norm_ (a' := ?_) ?_ ?_
 rotate_left
 ·
  show Act.put _ (some 11) _ = _
  simp only [put_s, List.set, i64_w, i32_w]
  rfl
 refine pu_ (i := 6) (N := some 12) (v := ?_) (a' := ?_) rfl rfl (by kernel_rfl) (fun _ _ _ h => h) (by rfl) ?_ ?_ ?_
 rotate_left
 · (intro w'; go_simp; with_reducible rfl)
 rotate_left
 · (simp only [put_s, List.set, i64_w, i32_w]; rfl)
 refine la_ (i := 7) (N := none) rfl rfl (by kernel_rfl) (by decide) (fun K hK => ?_)
 refine skip_ (w1 := w2.setCell ⟨f, 1, none⟩ (.int .i64 (be (xs.take k)))) (by rfl) rfl (by go_simp) ?_
 refine hK.out _ _ ?_
 clear hK K
 refine done_ (by kernel_rfl) ?_
 go_wp2
 try go_end0
 exact ⟨rfl, Blk.other hg2 (Ne.symm hgf) _, Blk.set (i := 1) hb2 _, (ht2.mono (fun i hi => .inl (by simp at hi ⊢; exact .inl hi))).setCell (.inl (by simp)) _⟩
set_option maxHeartbeats 2000000 in
set_option maxRecDepth 100000 in
theorem fits_tenant (f b l r : Nat) (lo hi : Int) (w : World) (F : Flds) (dv : Value)
  (hf : FdAt w f F dv) (hl : Blk w l #[.int .i64 lo] 3) (hr : Blk w r #[.int .i64 hi] 3) (hb : Blk w b #[.func (Fn.func 41) #[] #[]] 93) :
  Calls Try.prog 64 #[pt f, pt b, pt l, pt r] w fun e w' =>
   e = .returned (.bool (decide (lo ≤ F.tn) && decide (F.tn ≤ hi))) ∧ ∃ nq, w' = w.drewN nq := by
 have h1 : w.cell? ⟨l, 0, none⟩ = some (.int .i64 lo) := Blk.cell (i := 0) hl rfl
 have h3 : w.cell? ⟨r, 0, none⟩ = some (.int .i64 hi) := Blk.cell (i := 0) hr rfl
 have h2 : w.cell? ⟨b, 0, none⟩ = some (.func (Fn.func 41) #[] #[]) := Blk.cell (i := 0) hb rfl
 have hv1 : w.cell? ⟨f, 1, none⟩ = some (.int .i64 F.tn) := Blk.cell (i := 1) hf rfl
 by_cases q1 : lo ≤ F.tn
 ·
  have d1 : decide (F.tn ≥ lo) = true := decide_eq_true q1
  rw [decide_eq_true q1, Bool.true_and]
  go_enter Try.func64, Try.ntmps64
  go_wp2_with fail
  go_quiet ((go_at_call 41; exact Calls.quiet_of_same (Calls.mono (tenantOf_any _ _) (fun _ _ h => ⟨h.1, h.2.symm⟩))))
  go_wp2
  go_ret
  exact ⟨rfl, _, rfl⟩
 ·
  have d1 : decide (F.tn ≥ lo) = false := decide_eq_false q1
  rw [decide_eq_false q1, Bool.false_and]
  go_enter Try.func64, Try.ntmps64
  go_wp2_with fail
  go_quiet ((go_at_call 41; exact Calls.quiet_of_same (Calls.mono (tenantOf_any _ _) (fun _ _ h => ⟨h.1, h.2.symm⟩))))
  go_wp2
  go_ret
  exact ⟨rfl, _, rfl⟩
set_option maxHeartbeats 2000000 in
set_option maxRecDepth 100000 in
theorem write_tenant (base : Nat) (S : List Nat) (f a b k : Nat) (v : Value) (xs : List Int) (w : World) (F : Flds) (dv : Value)
  (hf : FdAt w f F dv) (ha : Blk w a #[.int .i64 k] 3) (hb : Blk w b #[.func (Fn.func 41) #[] #[]] 93)
  (hR : Own w base (okS S w) v xs) (hbs : base ≤ w.heap.size) (h0 : 0 ≤ F.tn) (hk1 : 1 ≤ k) (hk : k ≤ 4) (hl : xs.length ≤ 140737488350000) :
  Calls Try.prog 65 #[v, pt f, pt b, pt a] w fun e w' => ∃ v', e = .returned v' ∧ Own w' base (okS S w) v' (xs ++ beB F.tn k) ∧ Tu S w w' ∧ Below base w w' := by
 have h1 : w.cell? ⟨a, 0, none⟩ = some (.int .i64 k) := Blk.cell (i := 0) ha rfl
 have h2 : w.cell? ⟨b, 0, none⟩ = some (.func (Fn.func 41) #[] #[]) := Blk.cell (i := 0) hb rfl
 have hv1 : w.cell? ⟨f, 1, none⟩ = some (.int .i64 F.tn) := Blk.cell (i := 1) hf rfl
 go_enter Try.func65, Try.ntmps65
 go_wp2_with fail
 refine start_ (n := 9) (S := fun w' => w'.cell? ⟨a, 0, none⟩ = some (.int .i64 k) ∧ w'.cell? ⟨b, 0, none⟩ = some (.func (Fn.func 41) #[] #[]) ∧ w'.cell? ⟨f, 1, none⟩ = some (.int .i64 F.tn)) (ds := [7]) #[false, false, false, false, false, false, false, false, false] (by kernel_rfl) rfl rfl ⟨h1, h2, hv1⟩ (fun hHeld => ?_)
 refine pu_ (i := 0) (N := some 7) (v := ?_) (a' := ?_) rfl rfl (by kernel_rfl) (fun _ _ _ h => h) (by rfl) ?_ ?_ ?_
 rotate_left
 · (intro w'; go_simp; with_reducible rfl)
 rotate_left
 · (simp only [put_s, List.set, i64_w, i32_w]; rfl)
 refine tk_ (i := 1) (N := some 8) (v := ?_) (a' := ?_) rfl rfl (by kernel_rfl) (fun _ _ _ h => h) (by rfl) ?_ hHeld ?_ ?_
 rotate_left
 · (intro w' s0; go_simp; with_reducible rfl)
 rotate_left
 · (simp only [put_s, List.set, i64_w, i32_w]; rfl)
 refine pu_ (i := 2) (N := some 9) (v := ?_) (a' := ?_) rfl rfl (by kernel_rfl) (fun _ _ _ h => h) (by rfl) ?_ ?_ ?_
 rotate_left
 · (intro w'; go_simp; with_reducible rfl)
 rotate_left
 · (simp only [put_s, List.set, i64_w, i32_w]; rfl)
 refine tk_ (i := 6) (N := some 13) (v := ?_) (a' := ?_) rfl rfl (by kernel_rfl) (fun _ _ _ h => h) (by rfl) ?_ hHeld ?_ ?_
 rotate_left
 · (intro w' s0; go_simp; with_reducible rfl)
 rotate_left
 · (simp only [put_s, List.set, i64_w, i32_w]; rfl)
 refine on_ (i := 3) (N := some 10) rfl rfl (by kernel_rfl) (by decide) (fun K hK => ?_)
 refine goesV #[] Try.func41 (by kernel_rfl) rfl #[pt f] (by rfl) rfl rfl rfl (by simp [Act.eval]) ?_
 with_reducible refine (tenantOf_any ..).mono ?_
 rintro e w2 ⟨rfl, rfl⟩
 refine .inl ⟨_, rfl, ?_⟩
 refine hK.out _ _ hHeld (fun hHeld => ?_)
 clear hK K
 refine norm_ (a' := ?_) ?_ ?_
 rotate_left
 ·
  show Act.put _ (some 10) _ = _
  simp only [put_s, List.set, i64_w, i32_w]
  rfl
 refine pu_ (i := 4) (N := some 11) (v := ?_) (a' := ?_) rfl rfl (by kernel_rfl) (fun _ _ _ h => h) (by rfl) ?_ ?_ ?_
 rotate_left
 · (intro w'; go_simp; with_reducible rfl)
 rotate_left
 · (simp only [put_s, List.set, i64_w, i32_w]; rfl)
 refine tk_ (i := 5) (N := some 12) (v := ?_) (a' := ?_) rfl rfl (by kernel_rfl) (fun _ _ _ h => h) (by rfl) ?_ hHeld ?_ ?_
 rotate_left
 · (intro w' s0; go_simp; with_reducible rfl)
 rotate_left
 · (simp only [put_s, List.set, i64_w, i32_w]; rfl)
 refine la_ (i := 7) (N := some 14) rfl rfl (by kernel_rfl) (by decide) (fun K hK => ?_)
 refine goesV #[] Try.func48 (by kernel_rfl) rfl #[v, .int .i64 F.tn, .int .i64 k] (by rfl) rfl rfl rfl (by simp [Act.eval]) ?_
 refine Calls.mono (put_ok base S v xs _ k _ (Kd.R_step hR (fun _ _ _ => rfl)) hbs h0 hk1 hk hl) ?_
 rintro e w2 ⟨v', rfl, ho, ht, hb2⟩
 refine .inl ⟨_, rfl, ?_⟩
 refine hK.out _ _ ?_
 clear hK K
 refine norm_ (a' := ?_) ?_ ?_
 rotate_left
 ·
  show Act.put _ (some 14) _ = _
  simp only [put_s, List.set, i64_w, i32_w]
  rfl
 refine pu_ (i := 8) (N := some 6) (v := ?_) (a' := ?_) rfl rfl (by kernel_rfl) (fun _ _ _ h => h) (by rfl) ?_ ?_ ?_
 rotate_left
 · (intro w'; go_simp; with_reducible rfl)
 rotate_left
 · (simp only [put_s, List.set, i64_w, i32_w]; rfl)
 refine done_ (by kernel_rfl) ?_
 go_wp2
 go_ret
 exact ⟨_, rfl, ho, ((Tu.refl _ _).drew).trans ht, ((Below.refl _ _).drew).trans hb2⟩
theorem clear_tenant (f b : Nat) (w : World) (F : Flds) (dv : Value) (hf : FdAt w f F dv) (hb : Blk w b #[.func (Fn.func 41) #[] #[]] 93) :
  Calls Try.prog 66 #[pt f, pt b] w fun e w' => e = .returned (.tuple #[]) ∧ FdAt w' f { F with tn := 0 } dv ∧ Tu [f] w w' := by
 have h2 : w.cell? ⟨b, 0, none⟩ = some (.func (Fn.func 41) #[] #[]) := Blk.cell (i := 0) hb rfl
 have hv1 : w.cell? ⟨f, 1, none⟩ = some (.int .i64 F.tn) := Blk.cell (i := 1) hf rfl
 have hz2 := Blk.frozen (i := 1) hf
 go_enter Try.func66, Try.ntmps66
 go_wp2_with (with_reducible refine (tenantOf_any ..).mono ?_; rintro e w2 ⟨rfl, rfl⟩)
 go_end0
 exact ⟨rfl, Blk.set (i := 1) hf _, (Tu.refl _ _).setCell (.inl (by simp)) _⟩
set_option maxHeartbeats 2000000 in
set_option maxRecDepth 100000 in
theorem read_no_n (g f a b : Nat) (A : Option Addr) (n c k : Nat) (w : World)
  (h : RdAt w g A n c) (ha : Blk w a #[.int .i64 k] 3) (hb : Blk w b #[.func (Fn.func 44) #[] #[]] 93) (hk : n < k) :
  Calls Try.prog 63 #[pt g, pt f, pt a, pt b] w fun e w' => e = wrong 121 ∧ Tu [g] w w' := by
 have h1 : w.cell? ⟨a, 0, none⟩ = some (.int .i64 k) := Blk.cell (i := 0) ha rfl
 have h2 : w.cell? ⟨b, 0, none⟩ = some (.func (Fn.func 44) #[] #[]) := Blk.cell (i := 0) hb rfl
 go_enter Try.func63, Try.ntmps63
 go_wp2_with fail
 refine start_ (n := 8) (S := fun w' => w'.cell? ⟨a, 0, none⟩ = some (.int .i64 k) ∧ w'.cell? ⟨b, 0, none⟩ = some (.func (Fn.func 44) #[] #[])) (ds := [5]) #[false, false, false, false, false, false, false, false] (by kernel_rfl) rfl rfl ⟨h1, h2⟩ (fun hHeld => ?_)
 refine tk_ (i := 0) (N := some 6) (v := ?_) (a' := ?_) rfl rfl (by kernel_rfl) (fun _ _ _ h => h) (by rfl) ?_ hHeld ?_ ?_
 rotate_left
 · (intro w' s0; go_simp; with_reducible rfl)
 rotate_left
 · (simp only [put_s, List.set, i64_w, i32_w]; rfl)
 refine pu_ (i := 1) (N := some 7) (v := ?_) (a' := ?_) rfl rfl (by kernel_rfl) (fun _ _ _ h => h) (by rfl) ?_ ?_ ?_
 rotate_left
 · (intro w'; go_simp; with_reducible rfl)
 rotate_left
 · (simp only [put_s, List.set, i64_w, i32_w]; rfl)
 refine pu_ (i := 3) (N := some 9) (v := ?_) (a' := ?_) rfl rfl (by kernel_rfl) (fun _ _ _ h => h) (by rfl) ?_ ?_ ?_
 rotate_left
 · (intro w'; go_simp; with_reducible rfl)
 rotate_left
 · (simp only [put_s, List.set, i64_w, i32_w]; rfl)
 refine tk_ (i := 4) (N := some 10) (v := ?_) (a' := ?_) rfl rfl (by kernel_rfl) (fun _ _ _ h => h) (by rfl) ?_ hHeld ?_ ?_
 rotate_left
 · (intro w' s0; go_simp; with_reducible rfl)
 rotate_left
 · (simp only [put_s, List.set, i64_w, i32_w]; rfl)
 refine on_ (i := 2) (N := some 8) rfl rfl (by kernel_rfl) (by decide) (fun K hK => ?_)
 refine goesV #[] Try.func44 (by kernel_rfl) rfl #[pt f] (by rfl) rfl rfl rfl (by simp [Act.eval]) ?_
 with_reducible refine (nOf_any ..).mono ?_
 rintro e w2 ⟨rfl, rfl⟩
 refine .inl ⟨_, rfl, ?_⟩
 refine hK.out _ _ hHeld (fun hHeld => ?_)
 clear hK K
 refine norm_ (a' := ?_) ?_ ?_
 rotate_left
 ·
  show Act.put _ (some 8) _ = _
  simp only [put_s, List.set, i64_w, i32_w]
  rfl
 refine la_ (i := 5) (N := some 11) rfl rfl (by kernel_rfl) (by decide) (fun K hK => ?_)
 refine goesV #[] Try.func45 (by kernel_rfl) rfl #[pt g, .int .i64 k] (by rfl) rfl rfl rfl (by simp [Act.eval]) ?_
 refine Calls.mono (rnumber_no g A n c k _ h hk) ?_
 rintro e w2 ⟨rfl, rfl⟩
 exact .inr ⟨_, rfl, rfl, rfl, (Tu.refl _ _).drew⟩
set_option maxHeartbeats 2000000 in
set_option maxRecDepth 100000 in
theorem read_ok_n (g f a b : Nat) (A : Option Addr) (n c k : Nat) (w : World) (xs : List Int) (F : Flds) (dv : Value)
  (h : RdAt w g A n c) (hf : FdAt w f F dv) (ha : Blk w a #[.int .i64 k] 3) (hb : Blk w b #[.func (Fn.func 44) #[] #[]] 93)
  (hx : BytesAt w A n xs) (hu : u8s xs) (hg : ∀ a, A = some a → 0 < n → a.block ≠ g) (hk : k ≤ n) (hk4 : k ≤ 4) (hc : n ≤ c) (hgf : f ≠ g) :
  Calls Try.prog 63 #[pt g, pt f, pt a, pt b] w fun e w' =>
   e = .returned (.tuple #[]) ∧ RdAt w' g (adv A c k) (n - k) (c - k) ∧ FdAt w' f { F with n := be (xs.take k) } dv ∧ Tu [g, f] w w' := by
 have h1 : w.cell? ⟨a, 0, none⟩ = some (.int .i64 k) := Blk.cell (i := 0) ha rfl
 have h2 : w.cell? ⟨b, 0, none⟩ = some (.func (Fn.func 44) #[] #[]) := Blk.cell (i := 0) hb rfl
 have hv1 : (F.cells dv)[2]? = some (.int .i64 F.n) := rfl
 go_enter Try.func63, Try.ntmps63
 go_wp2_with fail
 refine start_ (n := 8) (S := fun w' => w'.cell? ⟨a, 0, none⟩ = some (.int .i64 k) ∧ w'.cell? ⟨b, 0, none⟩ = some (.func (Fn.func 44) #[] #[])) (ds := [5, 7]) #[false, false, false, false, false, false, false, false] (by kernel_rfl) rfl rfl ⟨h1, h2⟩ (fun hHeld => ?_)
 refine tk_ (i := 0) (N := some 6) (v := ?_) (a' := ?_) rfl rfl (by kernel_rfl) (fun _ _ _ h => h) (by rfl) ?_ hHeld ?_ ?_
 rotate_left
 · (intro w' s0; go_simp; with_reducible rfl)
 rotate_left
 · (simp only [put_s, List.set, i64_w, i32_w]; rfl)
 refine pu_ (i := 1) (N := some 7) (v := ?_) (a' := ?_) rfl rfl (by kernel_rfl) (fun _ _ _ h => h) (by rfl) ?_ ?_ ?_
 rotate_left
 · (intro w'; go_simp; with_reducible rfl)
 rotate_left
 · (simp only [put_s, List.set, i64_w, i32_w]; rfl)
 refine pu_ (i := 3) (N := some 9) (v := ?_) (a' := ?_) rfl rfl (by kernel_rfl) (fun _ _ _ h => h) (by rfl) ?_ ?_ ?_
 rotate_left
 · (intro w'; go_simp; with_reducible rfl)
 rotate_left
 · (simp only [put_s, List.set, i64_w, i32_w]; rfl)
 refine tk_ (i := 4) (N := some 10) (v := ?_) (a' := ?_) rfl rfl (by kernel_rfl) (fun _ _ _ h => h) (by rfl) ?_ hHeld ?_ ?_
 rotate_left
 · (intro w' s0; go_simp; with_reducible rfl)
 rotate_left
 · (simp only [put_s, List.set, i64_w, i32_w]; rfl)
 refine on_ (i := 2) (N := some 8) rfl rfl (by kernel_rfl) (by decide) (fun K hK => ?_)
 refine goesV #[] Try.func44 (by kernel_rfl) rfl #[pt f] (by rfl) rfl rfl rfl (by simp [Act.eval]) ?_
 with_reducible refine (nOf_any ..).mono ?_
 rintro e w2 ⟨rfl, rfl⟩
 refine .inl ⟨_, rfl, ?_⟩
 refine hK.out _ _ hHeld (fun hHeld => ?_)
 clear hK K
 refine norm_ (a' := ?_) ?_ ?_
 rotate_left
 ·
  show Act.put _ (some 8) _ = _
  simp only [put_s, List.set, i64_w, i32_w]
  rfl
 refine la_ (i := 5) (N := some 11) rfl rfl (by kernel_rfl) (by decide) (fun K hK => ?_)
 refine goesV #[] Try.func45 (by kernel_rfl) rfl #[pt g, .int .i64 k] (by rfl) rfl rfl rfl (by simp [Act.eval]) ?_
 refine Calls.mono (rnumber_ok g A n c k _ xs h hx hu hg hk hk4 hc) ?_
 rintro e w2 ⟨rfl, hw2⟩
 have hb2 : FdAt w2 f F dv := by rw [← hw2]; exact Blk.other hf hgf _
 have hc2 := Blk.cell hb2 hv1
 have hz2 := Blk.frozen (i := 2) hb2
 have hg2 : RdAt w2 g (adv A c k) (n - k) (c - k) := by rw [← hw2]; exact Blk.set (i := 0) h _
 have ht2 : Tu [g] w w2 := by rw [← hw2]; exact ((Tu.refl _ _).drew).setCell (.inl (by simp)) _
 clear hw2
 refine .inl ⟨_, rfl, ?_⟩
 refine hK.out _ _ ?_
 clear hK K
 refine norm_ (a' := ?_) ?_ ?_
 rotate_left
 ·
  show Act.put _ (some 11) _ = _
  simp only [put_s, List.set, i64_w, i32_w]
  rfl
 refine pu_ (i := 6) (N := some 12) (v := ?_) (a' := ?_) rfl rfl (by kernel_rfl) (fun _ _ _ h => h) (by rfl) ?_ ?_ ?_
 rotate_left
 · (intro w'; go_simp; with_reducible rfl)
 rotate_left
 · (simp only [put_s, List.set, i64_w, i32_w]; rfl)
 refine la_ (i := 7) (N := none) rfl rfl (by kernel_rfl) (by decide) (fun K hK => ?_)
 refine skip_ (w1 := w2.setCell ⟨f, 2, none⟩ (.int .i64 (be (xs.take k)))) (by rfl) rfl (by go_simp) ?_
 refine hK.out _ _ ?_
 clear hK K
 refine done_ (by kernel_rfl) ?_
 go_wp2
 try go_end0
 exact ⟨rfl, Blk.other hg2 (Ne.symm hgf) _, Blk.set (i := 2) hb2 _, (ht2.mono (fun i hi => .inl (by simp at hi ⊢; exact .inl hi))).setCell (.inl (by simp)) _⟩
set_option maxHeartbeats 2000000 in
set_option maxRecDepth 100000 in
theorem fits_n (f b l r : Nat) (lo hi : Int) (w : World) (F : Flds) (dv : Value)
  (hf : FdAt w f F dv) (hl : Blk w l #[.int .i64 lo] 3) (hr : Blk w r #[.int .i64 hi] 3) (hb : Blk w b #[.func (Fn.func 44) #[] #[]] 93) :
  Calls Try.prog 64 #[pt f, pt b, pt l, pt r] w fun e w' =>
   e = .returned (.bool (decide (lo ≤ F.n) && decide (F.n ≤ hi))) ∧ ∃ nq, w' = w.drewN nq := by
 have h1 : w.cell? ⟨l, 0, none⟩ = some (.int .i64 lo) := Blk.cell (i := 0) hl rfl
 have h3 : w.cell? ⟨r, 0, none⟩ = some (.int .i64 hi) := Blk.cell (i := 0) hr rfl
 have h2 : w.cell? ⟨b, 0, none⟩ = some (.func (Fn.func 44) #[] #[]) := Blk.cell (i := 0) hb rfl
 have hv1 : w.cell? ⟨f, 2, none⟩ = some (.int .i64 F.n) := Blk.cell (i := 2) hf rfl
 by_cases q1 : lo ≤ F.n
 ·
  have d1 : decide (F.n ≥ lo) = true := decide_eq_true q1
  rw [decide_eq_true q1, Bool.true_and]
  go_enter Try.func64, Try.ntmps64
  go_wp2_with fail
  go_quiet ((go_at_call 44; exact Calls.quiet_of_same (Calls.mono (nOf_any _ _) (fun _ _ h => ⟨h.1, h.2.symm⟩))))
  go_wp2
  go_ret
  exact ⟨rfl, _, rfl⟩
 ·
  have d1 : decide (F.n ≥ lo) = false := decide_eq_false q1
  rw [decide_eq_false q1, Bool.false_and]
  go_enter Try.func64, Try.ntmps64
  go_wp2_with fail
  go_quiet ((go_at_call 44; exact Calls.quiet_of_same (Calls.mono (nOf_any _ _) (fun _ _ h => ⟨h.1, h.2.symm⟩))))
  go_wp2
  go_ret
  exact ⟨rfl, _, rfl⟩
set_option maxHeartbeats 2000000 in
set_option maxRecDepth 100000 in
theorem write_n (base : Nat) (S : List Nat) (f a b k : Nat) (v : Value) (xs : List Int) (w : World) (F : Flds) (dv : Value)
  (hf : FdAt w f F dv) (ha : Blk w a #[.int .i64 k] 3) (hb : Blk w b #[.func (Fn.func 44) #[] #[]] 93)
  (hR : Own w base (okS S w) v xs) (hbs : base ≤ w.heap.size) (h0 : 0 ≤ F.n) (hk1 : 1 ≤ k) (hk : k ≤ 4) (hl : xs.length ≤ 140737488350000) :
  Calls Try.prog 65 #[v, pt f, pt b, pt a] w fun e w' => ∃ v', e = .returned v' ∧ Own w' base (okS S w) v' (xs ++ beB F.n k) ∧ Tu S w w' ∧ Below base w w' := by
 have h1 : w.cell? ⟨a, 0, none⟩ = some (.int .i64 k) := Blk.cell (i := 0) ha rfl
 have h2 : w.cell? ⟨b, 0, none⟩ = some (.func (Fn.func 44) #[] #[]) := Blk.cell (i := 0) hb rfl
 have hv1 : w.cell? ⟨f, 2, none⟩ = some (.int .i64 F.n) := Blk.cell (i := 2) hf rfl
 go_enter Try.func65, Try.ntmps65
 go_wp2_with fail
 refine start_ (n := 9) (S := fun w' => w'.cell? ⟨a, 0, none⟩ = some (.int .i64 k) ∧ w'.cell? ⟨b, 0, none⟩ = some (.func (Fn.func 44) #[] #[]) ∧ w'.cell? ⟨f, 2, none⟩ = some (.int .i64 F.n)) (ds := [7]) #[false, false, false, false, false, false, false, false, false] (by kernel_rfl) rfl rfl ⟨h1, h2, hv1⟩ (fun hHeld => ?_)
 refine pu_ (i := 0) (N := some 7) (v := ?_) (a' := ?_) rfl rfl (by kernel_rfl) (fun _ _ _ h => h) (by rfl) ?_ ?_ ?_
 rotate_left
 · (intro w'; go_simp; with_reducible rfl)
 rotate_left
 · (simp only [put_s, List.set, i64_w, i32_w]; rfl)
 refine tk_ (i := 1) (N := some 8) (v := ?_) (a' := ?_) rfl rfl (by kernel_rfl) (fun _ _ _ h => h) (by rfl) ?_ hHeld ?_ ?_
 rotate_left
 · (intro w' s0; go_simp; with_reducible rfl)
 rotate_left
 · (simp only [put_s, List.set, i64_w, i32_w]; rfl)
 refine pu_ (i := 2) (N := some 9) (v := ?_) (a' := ?_) rfl rfl (by kernel_rfl) (fun _ _ _ h => h) (by rfl) ?_ ?_ ?_
 rotate_left
 · (intro w'; go_simp; with_reducible rfl)
 rotate_left
 · (simp only [put_s, List.set, i64_w, i32_w]; rfl)
 refine tk_ (i := 6) (N := some 13) (v := ?_) (a' := ?_) rfl rfl (by kernel_rfl) (fun _ _ _ h => h) (by rfl) ?_ hHeld ?_ ?_
 rotate_left
 · (intro w' s0; go_simp; with_reducible rfl)
 rotate_left
 · (simp only [put_s, List.set, i64_w, i32_w]; rfl)
 refine on_ (i := 3) (N := some 10) rfl rfl (by kernel_rfl) (by decide) (fun K hK => ?_)
 refine goesV #[] Try.func44 (by kernel_rfl) rfl #[pt f] (by rfl) rfl rfl rfl (by simp [Act.eval]) ?_
 with_reducible refine (nOf_any ..).mono ?_
 rintro e w2 ⟨rfl, rfl⟩
 refine .inl ⟨_, rfl, ?_⟩
 refine hK.out _ _ hHeld (fun hHeld => ?_)
 clear hK K
 refine norm_ (a' := ?_) ?_ ?_
 rotate_left
 ·
  show Act.put _ (some 10) _ = _
  simp only [put_s, List.set, i64_w, i32_w]
  rfl
 refine pu_ (i := 4) (N := some 11) (v := ?_) (a' := ?_) rfl rfl (by kernel_rfl) (fun _ _ _ h => h) (by rfl) ?_ ?_ ?_
 rotate_left
 · (intro w'; go_simp; with_reducible rfl)
 rotate_left
 · (simp only [put_s, List.set, i64_w, i32_w]; rfl)
 refine tk_ (i := 5) (N := some 12) (v := ?_) (a' := ?_) rfl rfl (by kernel_rfl) (fun _ _ _ h => h) (by rfl) ?_ hHeld ?_ ?_
 rotate_left
 · (intro w' s0; go_simp; with_reducible rfl)
 rotate_left
 · (simp only [put_s, List.set, i64_w, i32_w]; rfl)
 refine la_ (i := 7) (N := some 14) rfl rfl (by kernel_rfl) (by decide) (fun K hK => ?_)
 refine goesV #[] Try.func48 (by kernel_rfl) rfl #[v, .int .i64 F.n, .int .i64 k] (by rfl) rfl rfl rfl (by simp [Act.eval]) ?_
 refine Calls.mono (put_ok base S v xs _ k _ (Kd.R_step hR (fun _ _ _ => rfl)) hbs h0 hk1 hk hl) ?_
 rintro e w2 ⟨v', rfl, ho, ht, hb2⟩
 refine .inl ⟨_, rfl, ?_⟩
 refine hK.out _ _ ?_
 clear hK K
 refine norm_ (a' := ?_) ?_ ?_
 rotate_left
 ·
  show Act.put _ (some 14) _ = _
  simp only [put_s, List.set, i64_w, i32_w]
  rfl
 refine pu_ (i := 8) (N := some 6) (v := ?_) (a' := ?_) rfl rfl (by kernel_rfl) (fun _ _ _ h => h) (by rfl) ?_ ?_ ?_
 rotate_left
 · (intro w'; go_simp; with_reducible rfl)
 rotate_left
 · (simp only [put_s, List.set, i64_w, i32_w]; rfl)
 refine done_ (by kernel_rfl) ?_
 go_wp2
 go_ret
 exact ⟨_, rfl, ho, ((Tu.refl _ _).drew).trans ht, ((Below.refl _ _).drew).trans hb2⟩
theorem clear_n (f b : Nat) (w : World) (F : Flds) (dv : Value) (hf : FdAt w f F dv) (hb : Blk w b #[.func (Fn.func 44) #[] #[]] 93) :
  Calls Try.prog 66 #[pt f, pt b] w fun e w' => e = .returned (.tuple #[]) ∧ FdAt w' f { F with n := 0 } dv ∧ Tu [f] w w' := by
 have h2 : w.cell? ⟨b, 0, none⟩ = some (.func (Fn.func 44) #[] #[]) := Blk.cell (i := 0) hb rfl
 have hv1 : w.cell? ⟨f, 2, none⟩ = some (.int .i64 F.n) := Blk.cell (i := 2) hf rfl
 have hz2 := Blk.frozen (i := 2) hf
 go_enter Try.func66, Try.ntmps66
 go_wp2_with (with_reducible refine (nOf_any ..).mono ?_; rintro e w2 ⟨rfl, rfl⟩)
 go_end0
 exact ⟨rfl, Blk.set (i := 2) hf _, (Tu.refl _ _).setCell (.inl (by simp)) _⟩
set_option maxHeartbeats 2000000 in
set_option maxRecDepth 100000 in
theorem read_no_m (g f a b : Nat) (A : Option Addr) (n c k : Nat) (w : World)
  (h : RdAt w g A n c) (ha : Blk w a #[.int .i64 k] 3) (hb : Blk w b #[.func (Fn.func 49) #[] #[]] 93) (hk : n < k) :
  Calls Try.prog 63 #[pt g, pt f, pt a, pt b] w fun e w' => e = wrong 121 ∧ Tu [g] w w' := by
 have h1 : w.cell? ⟨a, 0, none⟩ = some (.int .i64 k) := Blk.cell (i := 0) ha rfl
 have h2 : w.cell? ⟨b, 0, none⟩ = some (.func (Fn.func 49) #[] #[]) := Blk.cell (i := 0) hb rfl
 go_enter Try.func63, Try.ntmps63
 go_wp2_with fail
 refine start_ (n := 8) (S := fun w' => w'.cell? ⟨a, 0, none⟩ = some (.int .i64 k) ∧ w'.cell? ⟨b, 0, none⟩ = some (.func (Fn.func 49) #[] #[])) (ds := [5]) #[false, false, false, false, false, false, false, false] (by kernel_rfl) rfl rfl ⟨h1, h2⟩ (fun hHeld => ?_)
 refine tk_ (i := 0) (N := some 6) (v := ?_) (a' := ?_) rfl rfl (by kernel_rfl) (fun _ _ _ h => h) (by rfl) ?_ hHeld ?_ ?_
 rotate_left
 · (intro w' s0; go_simp; with_reducible rfl)
 rotate_left
 · (simp only [put_s, List.set, i64_w, i32_w]; rfl)
 refine pu_ (i := 1) (N := some 7) (v := ?_) (a' := ?_) rfl rfl (by kernel_rfl) (fun _ _ _ h => h) (by rfl) ?_ ?_ ?_
 rotate_left
 · (intro w'; go_simp; with_reducible rfl)
 rotate_left
 · (simp only [put_s, List.set, i64_w, i32_w]; rfl)
 refine pu_ (i := 3) (N := some 9) (v := ?_) (a' := ?_) rfl rfl (by kernel_rfl) (fun _ _ _ h => h) (by rfl) ?_ ?_ ?_
 rotate_left
 · (intro w'; go_simp; with_reducible rfl)
 rotate_left
 · (simp only [put_s, List.set, i64_w, i32_w]; rfl)
 refine tk_ (i := 4) (N := some 10) (v := ?_) (a' := ?_) rfl rfl (by kernel_rfl) (fun _ _ _ h => h) (by rfl) ?_ hHeld ?_ ?_
 rotate_left
 · (intro w' s0; go_simp; with_reducible rfl)
 rotate_left
 · (simp only [put_s, List.set, i64_w, i32_w]; rfl)
 refine on_ (i := 2) (N := some 8) rfl rfl (by kernel_rfl) (by decide) (fun K hK => ?_)
 refine goesV #[] Try.func49 (by kernel_rfl) rfl #[pt f] (by rfl) rfl rfl rfl (by simp [Act.eval]) ?_
 with_reducible refine (mOf_any ..).mono ?_
 rintro e w2 ⟨rfl, rfl⟩
 refine .inl ⟨_, rfl, ?_⟩
 refine hK.out _ _ hHeld (fun hHeld => ?_)
 clear hK K
 refine norm_ (a' := ?_) ?_ ?_
 rotate_left
 ·
  show Act.put _ (some 8) _ = _
  simp only [put_s, List.set, i64_w, i32_w]
  rfl
 refine la_ (i := 5) (N := some 11) rfl rfl (by kernel_rfl) (by decide) (fun K hK => ?_)
 refine goesV #[] Try.func45 (by kernel_rfl) rfl #[pt g, .int .i64 k] (by rfl) rfl rfl rfl (by simp [Act.eval]) ?_
 refine Calls.mono (rnumber_no g A n c k _ h hk) ?_
 rintro e w2 ⟨rfl, rfl⟩
 exact .inr ⟨_, rfl, rfl, rfl, (Tu.refl _ _).drew⟩
set_option maxHeartbeats 2000000 in
set_option maxRecDepth 100000 in
theorem read_ok_m (g f a b : Nat) (A : Option Addr) (n c k : Nat) (w : World) (xs : List Int) (F : Flds) (dv : Value)
  (h : RdAt w g A n c) (hf : FdAt w f F dv) (ha : Blk w a #[.int .i64 k] 3) (hb : Blk w b #[.func (Fn.func 49) #[] #[]] 93)
  (hx : BytesAt w A n xs) (hu : u8s xs) (hg : ∀ a, A = some a → 0 < n → a.block ≠ g) (hk : k ≤ n) (hk4 : k ≤ 4) (hc : n ≤ c) (hgf : f ≠ g) :
  Calls Try.prog 63 #[pt g, pt f, pt a, pt b] w fun e w' =>
   e = .returned (.tuple #[]) ∧ RdAt w' g (adv A c k) (n - k) (c - k) ∧ FdAt w' f { F with m := be (xs.take k) } dv ∧ Tu [g, f] w w' := by
 have h1 : w.cell? ⟨a, 0, none⟩ = some (.int .i64 k) := Blk.cell (i := 0) ha rfl
 have h2 : w.cell? ⟨b, 0, none⟩ = some (.func (Fn.func 49) #[] #[]) := Blk.cell (i := 0) hb rfl
 have hv1 : (F.cells dv)[3]? = some (.int .i64 F.m) := rfl
 go_enter Try.func63, Try.ntmps63
 go_wp2_with fail
 refine start_ (n := 8) (S := fun w' => w'.cell? ⟨a, 0, none⟩ = some (.int .i64 k) ∧ w'.cell? ⟨b, 0, none⟩ = some (.func (Fn.func 49) #[] #[])) (ds := [5, 7]) #[false, false, false, false, false, false, false, false] (by kernel_rfl) rfl rfl ⟨h1, h2⟩ (fun hHeld => ?_)
 refine tk_ (i := 0) (N := some 6) (v := ?_) (a' := ?_) rfl rfl (by kernel_rfl) (fun _ _ _ h => h) (by rfl) ?_ hHeld ?_ ?_
 rotate_left
 · (intro w' s0; go_simp; with_reducible rfl)
 rotate_left
 · (simp only [put_s, List.set, i64_w, i32_w]; rfl)
 refine pu_ (i := 1) (N := some 7) (v := ?_) (a' := ?_) rfl rfl (by kernel_rfl) (fun _ _ _ h => h) (by rfl) ?_ ?_ ?_
 rotate_left
 · (intro w'; go_simp; with_reducible rfl)
 rotate_left
 · (simp only [put_s, List.set, i64_w, i32_w]; rfl)
 refine pu_ (i := 3) (N := some 9) (v := ?_) (a' := ?_) rfl rfl (by kernel_rfl) (fun _ _ _ h => h) (by rfl) ?_ ?_ ?_
 rotate_left
 · (intro w'; go_simp; with_reducible rfl)
 rotate_left
 · (simp only [put_s, List.set, i64_w, i32_w]; rfl)
 refine tk_ (i := 4) (N := some 10) (v := ?_) (a' := ?_) rfl rfl (by kernel_rfl) (fun _ _ _ h => h) (by rfl) ?_ hHeld ?_ ?_
 rotate_left
 · (intro w' s0; go_simp; with_reducible rfl)
 rotate_left
 · (simp only [put_s, List.set, i64_w, i32_w]; rfl)
 refine on_ (i := 2) (N := some 8) rfl rfl (by kernel_rfl) (by decide) (fun K hK => ?_)
 refine goesV #[] Try.func49 (by kernel_rfl) rfl #[pt f] (by rfl) rfl rfl rfl (by simp [Act.eval]) ?_
 with_reducible refine (mOf_any ..).mono ?_
 rintro e w2 ⟨rfl, rfl⟩
 refine .inl ⟨_, rfl, ?_⟩
 refine hK.out _ _ hHeld (fun hHeld => ?_)
 clear hK K
 refine norm_ (a' := ?_) ?_ ?_
 rotate_left
 ·
  show Act.put _ (some 8) _ = _
  simp only [put_s, List.set, i64_w, i32_w]
  rfl
 refine la_ (i := 5) (N := some 11) rfl rfl (by kernel_rfl) (by decide) (fun K hK => ?_)
 refine goesV #[] Try.func45 (by kernel_rfl) rfl #[pt g, .int .i64 k] (by rfl) rfl rfl rfl (by simp [Act.eval]) ?_
 refine Calls.mono (rnumber_ok g A n c k _ xs h hx hu hg hk hk4 hc) ?_
 rintro e w2 ⟨rfl, hw2⟩
 have hb2 : FdAt w2 f F dv := by rw [← hw2]; exact Blk.other hf hgf _
 have hc2 := Blk.cell hb2 hv1
 have hz2 := Blk.frozen (i := 3) hb2
 have hg2 : RdAt w2 g (adv A c k) (n - k) (c - k) := by rw [← hw2]; exact Blk.set (i := 0) h _
 have ht2 : Tu [g] w w2 := by rw [← hw2]; exact ((Tu.refl _ _).drew).setCell (.inl (by simp)) _
 clear hw2
 refine .inl ⟨_, rfl, ?_⟩
 refine hK.out _ _ ?_
 clear hK K
 refine norm_ (a' := ?_) ?_ ?_
 rotate_left
 ·
  show Act.put _ (some 11) _ = _
  simp only [put_s, List.set, i64_w, i32_w]
  rfl
 refine pu_ (i := 6) (N := some 12) (v := ?_) (a' := ?_) rfl rfl (by kernel_rfl) (fun _ _ _ h => h) (by rfl) ?_ ?_ ?_
 rotate_left
 · (intro w'; go_simp; with_reducible rfl)
 rotate_left
 · (simp only [put_s, List.set, i64_w, i32_w]; rfl)
 refine la_ (i := 7) (N := none) rfl rfl (by kernel_rfl) (by decide) (fun K hK => ?_)
 refine skip_ (w1 := w2.setCell ⟨f, 3, none⟩ (.int .i64 (be (xs.take k)))) (by rfl) rfl (by go_simp) ?_
 refine hK.out _ _ ?_
 clear hK K
 refine done_ (by kernel_rfl) ?_
 go_wp2
 try go_end0
 exact ⟨rfl, Blk.other hg2 (Ne.symm hgf) _, Blk.set (i := 3) hb2 _, (ht2.mono (fun i hi => .inl (by simp at hi ⊢; exact .inl hi))).setCell (.inl (by simp)) _⟩
set_option maxHeartbeats 2000000 in
set_option maxRecDepth 100000 in
theorem fits_m (f b l r : Nat) (lo hi : Int) (w : World) (F : Flds) (dv : Value)
  (hf : FdAt w f F dv) (hl : Blk w l #[.int .i64 lo] 3) (hr : Blk w r #[.int .i64 hi] 3) (hb : Blk w b #[.func (Fn.func 49) #[] #[]] 93) :
  Calls Try.prog 64 #[pt f, pt b, pt l, pt r] w fun e w' =>
   e = .returned (.bool (decide (lo ≤ F.m) && decide (F.m ≤ hi))) ∧ ∃ nq, w' = w.drewN nq := by
 have h1 : w.cell? ⟨l, 0, none⟩ = some (.int .i64 lo) := Blk.cell (i := 0) hl rfl
 have h3 : w.cell? ⟨r, 0, none⟩ = some (.int .i64 hi) := Blk.cell (i := 0) hr rfl
 have h2 : w.cell? ⟨b, 0, none⟩ = some (.func (Fn.func 49) #[] #[]) := Blk.cell (i := 0) hb rfl
 have hv1 : w.cell? ⟨f, 3, none⟩ = some (.int .i64 F.m) := Blk.cell (i := 3) hf rfl
 by_cases q1 : lo ≤ F.m
 ·
  have d1 : decide (F.m ≥ lo) = true := decide_eq_true q1
  rw [decide_eq_true q1, Bool.true_and]
  go_enter Try.func64, Try.ntmps64
  go_wp2_with fail
  go_quiet ((go_at_call 49; exact Calls.quiet_of_same (Calls.mono (mOf_any _ _) (fun _ _ h => ⟨h.1, h.2.symm⟩))))
  go_wp2
  go_ret
  exact ⟨rfl, _, rfl⟩
 ·
  have d1 : decide (F.m ≥ lo) = false := decide_eq_false q1
  rw [decide_eq_false q1, Bool.false_and]
  go_enter Try.func64, Try.ntmps64
  go_wp2_with fail
  go_quiet ((go_at_call 49; exact Calls.quiet_of_same (Calls.mono (mOf_any _ _) (fun _ _ h => ⟨h.1, h.2.symm⟩))))
  go_wp2
  go_ret
  exact ⟨rfl, _, rfl⟩
set_option maxHeartbeats 2000000 in
set_option maxRecDepth 100000 in
theorem write_m (base : Nat) (S : List Nat) (f a b k : Nat) (v : Value) (xs : List Int) (w : World) (F : Flds) (dv : Value)
  (hf : FdAt w f F dv) (ha : Blk w a #[.int .i64 k] 3) (hb : Blk w b #[.func (Fn.func 49) #[] #[]] 93)
  (hR : Own w base (okS S w) v xs) (hbs : base ≤ w.heap.size) (h0 : 0 ≤ F.m) (hk1 : 1 ≤ k) (hk : k ≤ 4) (hl : xs.length ≤ 140737488350000) :
  Calls Try.prog 65 #[v, pt f, pt b, pt a] w fun e w' => ∃ v', e = .returned v' ∧ Own w' base (okS S w) v' (xs ++ beB F.m k) ∧ Tu S w w' ∧ Below base w w' := by
 have h1 : w.cell? ⟨a, 0, none⟩ = some (.int .i64 k) := Blk.cell (i := 0) ha rfl
 have h2 : w.cell? ⟨b, 0, none⟩ = some (.func (Fn.func 49) #[] #[]) := Blk.cell (i := 0) hb rfl
 have hv1 : w.cell? ⟨f, 3, none⟩ = some (.int .i64 F.m) := Blk.cell (i := 3) hf rfl
 go_enter Try.func65, Try.ntmps65
 go_wp2_with fail
 refine start_ (n := 9) (S := fun w' => w'.cell? ⟨a, 0, none⟩ = some (.int .i64 k) ∧ w'.cell? ⟨b, 0, none⟩ = some (.func (Fn.func 49) #[] #[]) ∧ w'.cell? ⟨f, 3, none⟩ = some (.int .i64 F.m)) (ds := [7]) #[false, false, false, false, false, false, false, false, false] (by kernel_rfl) rfl rfl ⟨h1, h2, hv1⟩ (fun hHeld => ?_)
 refine pu_ (i := 0) (N := some 7) (v := ?_) (a' := ?_) rfl rfl (by kernel_rfl) (fun _ _ _ h => h) (by rfl) ?_ ?_ ?_
 rotate_left
 · (intro w'; go_simp; with_reducible rfl)
 rotate_left
 · (simp only [put_s, List.set, i64_w, i32_w]; rfl)
 refine tk_ (i := 1) (N := some 8) (v := ?_) (a' := ?_) rfl rfl (by kernel_rfl) (fun _ _ _ h => h) (by rfl) ?_ hHeld ?_ ?_
 rotate_left
 · (intro w' s0; go_simp; with_reducible rfl)
 rotate_left
 · (simp only [put_s, List.set, i64_w, i32_w]; rfl)
 refine pu_ (i := 2) (N := some 9) (v := ?_) (a' := ?_) rfl rfl (by kernel_rfl) (fun _ _ _ h => h) (by rfl) ?_ ?_ ?_
 rotate_left
 · (intro w'; go_simp; with_reducible rfl)
 rotate_left
 · (simp only [put_s, List.set, i64_w, i32_w]; rfl)
 refine tk_ (i := 6) (N := some 13) (v := ?_) (a' := ?_) rfl rfl (by kernel_rfl) (fun _ _ _ h => h) (by rfl) ?_ hHeld ?_ ?_
 rotate_left
 · (intro w' s0; go_simp; with_reducible rfl)
 rotate_left
 · (simp only [put_s, List.set, i64_w, i32_w]; rfl)
 refine on_ (i := 3) (N := some 10) rfl rfl (by kernel_rfl) (by decide) (fun K hK => ?_)
 refine goesV #[] Try.func49 (by kernel_rfl) rfl #[pt f] (by rfl) rfl rfl rfl (by simp [Act.eval]) ?_
 with_reducible refine (mOf_any ..).mono ?_
 rintro e w2 ⟨rfl, rfl⟩
 refine .inl ⟨_, rfl, ?_⟩
 refine hK.out _ _ hHeld (fun hHeld => ?_)
 clear hK K
 refine norm_ (a' := ?_) ?_ ?_
 rotate_left
 ·
  show Act.put _ (some 10) _ = _
  simp only [put_s, List.set, i64_w, i32_w]
  rfl
 refine pu_ (i := 4) (N := some 11) (v := ?_) (a' := ?_) rfl rfl (by kernel_rfl) (fun _ _ _ h => h) (by rfl) ?_ ?_ ?_
 rotate_left
 · (intro w'; go_simp; with_reducible rfl)
 rotate_left
 · (simp only [put_s, List.set, i64_w, i32_w]; rfl)
 refine tk_ (i := 5) (N := some 12) (v := ?_) (a' := ?_) rfl rfl (by kernel_rfl) (fun _ _ _ h => h) (by rfl) ?_ hHeld ?_ ?_
 rotate_left
 · (intro w' s0; go_simp; with_reducible rfl)
 rotate_left
 · (simp only [put_s, List.set, i64_w, i32_w]; rfl)
 refine la_ (i := 7) (N := some 14) rfl rfl (by kernel_rfl) (by decide) (fun K hK => ?_)
 refine goesV #[] Try.func48 (by kernel_rfl) rfl #[v, .int .i64 F.m, .int .i64 k] (by rfl) rfl rfl rfl (by simp [Act.eval]) ?_
 refine Calls.mono (put_ok base S v xs _ k _ (Kd.R_step hR (fun _ _ _ => rfl)) hbs h0 hk1 hk hl) ?_
 rintro e w2 ⟨v', rfl, ho, ht, hb2⟩
 refine .inl ⟨_, rfl, ?_⟩
 refine hK.out _ _ ?_
 clear hK K
 refine norm_ (a' := ?_) ?_ ?_
 rotate_left
 ·
  show Act.put _ (some 14) _ = _
  simp only [put_s, List.set, i64_w, i32_w]
  rfl
 refine pu_ (i := 8) (N := some 6) (v := ?_) (a' := ?_) rfl rfl (by kernel_rfl) (fun _ _ _ h => h) (by rfl) ?_ ?_ ?_
 rotate_left
 · (intro w'; go_simp; with_reducible rfl)
 rotate_left
 · (simp only [put_s, List.set, i64_w, i32_w]; rfl)
 refine done_ (by kernel_rfl) ?_
 go_wp2
 go_ret
 exact ⟨_, rfl, ho, ((Tu.refl _ _).drew).trans ht, ((Below.refl _ _).drew).trans hb2⟩
theorem clear_m (f b : Nat) (w : World) (F : Flds) (dv : Value) (hf : FdAt w f F dv) (hb : Blk w b #[.func (Fn.func 49) #[] #[]] 93) :
  Calls Try.prog 66 #[pt f, pt b] w fun e w' => e = .returned (.tuple #[]) ∧ FdAt w' f { F with m := 0 } dv ∧ Tu [f] w w' := by
 have h2 : w.cell? ⟨b, 0, none⟩ = some (.func (Fn.func 49) #[] #[]) := Blk.cell (i := 0) hb rfl
 have hv1 : w.cell? ⟨f, 3, none⟩ = some (.int .i64 F.m) := Blk.cell (i := 3) hf rfl
 have hz2 := Blk.frozen (i := 3) hf
 go_enter Try.func66, Try.ntmps66
 go_wp2_with (with_reducible refine (mOf_any ..).mono ?_; rintro e w2 ⟨rfl, rfl⟩)
 go_end0
 exact ⟨rfl, Blk.set (i := 3) hf _, (Tu.refl _ _).setCell (.inl (by simp)) _⟩
end Go.Proofs.Ytpflenaoplblkaa.ProC
end
section
namespace Go.Proofs.Ytpflenaoplblkaa.ProI
open Go.Shelf Go.RowKit Go.Lib Go.Proofs ProA ProB ProC
set_option linter.unusedVariables false
def ren : Ren := ⟨fun x => match x with | 15 => 84 | 20 => 90 | n => n, fun x => match x with | 23 => 135 | n => n, fun x => x⟩
theorem lays : LaysGw.n15 Try.prog ren :=
  { mixed := by kernel_rfl, f15 := Try.func84, f20 := Try.func90,
    t0 := Try.underlying0, a0 := Try.isAgg0, z0 := Try.sizeOf0, v0 := Try.zeroValue0, i0 := by kernel_rfl,
    t3 := Try.underlying3, a3 := Try.isAgg3, z3 := Try.sizeOf3, v3 := Try.zeroValue3, i3 := by kernel_rfl,
    t4 := Try.underlying4, a4 := Try.isAgg4, z4 := Try.sizeOf4, v4 := Try.zeroValue4, i4 := by kernel_rfl,
    t9 := Try.underlying9, a9 := Try.isAgg9, z9 := Try.sizeOf9, v9 := Try.zeroValue9, i9 := by kernel_rfl,
    t21 := Try.underlying21, a21 := Try.isAgg21, z21 := Try.sizeOf21, v21 := Try.zeroValue21, i21 := by kernel_rfl,
    t23 := Try.underlying135, a23 := Try.isAgg135, z23 := Try.sizeOf135, v23 := Try.zeroValue135, i23 := by kernel_rfl }
def bad (r : Nat) : Bool := !(decide (97 ≤ r) && decide (r ≤ 122) || decide (48 ≤ r) && decide (r ≤ 57) || decide ((r : Int) = 45) || decide ((r : Int) = 95))
set_option maxHeartbeats 1000000 in
theorem isBad (w : World) : PredAt Try.prog 85 #[] encR bad w := fun W r _ => by
  unfold FnGives bad
  by_cases h1 : 97 ≤ r <;> by_cases h2 : r ≤ 122 <;> by_cases h3 : 48 ≤ r <;> by_cases h4 : r ≤ 57 <;> by_cases h5 : (r : Int) = 45 <;> by_cases h6 : (r : Int) = 95
  all_goals
    have z1 : (97 : Int) ≤ (r : Int) ↔ 97 ≤ r := by omega
    have z2 : (r : Int) ≤ 122 ↔ r ≤ 122 := by omega
    have z3 : (48 : Int) ≤ (r : Int) ↔ 48 ≤ r := by omega
    have z4 : (r : Int) ≤ 57 ↔ r ≤ 57 := by omega
    first
      | (exfalso; omega)
      | (go_enter Try.func85, Try.ntmps85
         go_wp2
         all_goals first | (exfalso; omega) | (go_ret; exact ⟨by simp [h1, h2, h3, h4, h5, h6], 0, rfl⟩))
theorem indexFunc_any (s : ByteArray) (w : World) : Calls Try.prog 84 #[.string s, .func (.func 85) #[] #[]] w fun e w' => e = .returned (.int .i64 (Lib.idxFunc bad true s)) ∧ Below w.heap.size w w' :=
  Any.strings_IndexFunc lays 85 #[] (enters_of Try.func85 (by kernel_rfl) rfl) _ s w (isBad w)
def nameOk (s : ByteArray) : Bool := decide (Lib.idxFunc bad true s < 0) && decide (1 ≤ s.size) && decide (s.size ≤ 16)
set_option maxHeartbeats 1000000 in
theorem isName_any (s : ByteArray) (w : World) : Calls Try.prog 70 #[.string s] w fun e w' => e = .returned (.bool (nameOk s)) ∧ Below w.heap.size w w' := by
 unfold nameOk
 by_cases h1 : Lib.idxFunc bad true s < 0 <;> by_cases h2 : 1 ≤ s.size <;> by_cases h3 : s.size ≤ 16
 all_goals
  have z2 : (1 : Int) ≤ (s.size : Int) ↔ 1 ≤ s.size := by omega
  have z3 : (s.size : Int) ≤ 16 ↔ s.size ≤ 16 := by omega
  go_enter Try.func70, Try.ntmps70
  go_wp2_with (refine Calls.mono (indexFunc_any _ _) ?_; rintro e w2 ⟨rfl, hb⟩)
  all_goals first | (exfalso; omega) | (go_ret; exact ⟨by simp [h1, h2, h3], hb⟩)
end Go.Proofs.Ytpflenaoplblkaa.ProI
end
section
namespace Go.Proofs.Ytpflenaoplblkaa.ProD
open Go.RowKit YtpflenaoplblkaaW.PrintWords YtpflenaoplblkaaW.PrintLast ProA ProB ProC ProI
set_option linter.unusedVariables false
set_option linter.unusedSimpArgs false
theorem app_str {P : Program} {w : World} (base : Nat) (t u ty e : TypeId) (i : TypeInfo) (ht : P.underlying t = some (.slice e)) (hu : P.underlying u = some .string) (hi : P.info? e = some i) (hz : i.zero = some (.int .u8 0))
  (hsize : i.size = 1) (hby : i.bytes = 1) (v : Value) (n : Nat) (xs : List Value) (hown : w.ownsRow base e 1 v n xs) (s : ByteArray) (hl : n + s.size ≤ 140737488355328) (hbase : base ≤ w.heap.size) :
  ∃ v' w', (Builtin.append_ #[t, u] ty #[v, .string s]).run P w = .ok v' w' ∧ w'.ownsRow base e 1 v' (n + s.size) (xs ++ Lib.strCells s) ∧ w.grownBy w' v.ownBlock ∧
   (v'.ownBlock = v.ownBlock ∨ ∃ b, v'.ownBlock = some b ∧ w.heap.size ≤ b) := by
 obtain ⟨v', w', hr, h1, h2, h3⟩ := Lib.run_append_own_string (P := P) (w := w) base t u ty e i ht hu hi hz hsize hby v n xs hown s (by simp only [maxLen]; omega) hl hbase
 refine ⟨v', w', hr, h1, h2, ?_⟩
 have hxl : xs.length = n := by simpa using hown.1
 rcases hown.2 with ⟨rfl, rfl⟩ | ⟨g, cap, cur, rfl, hbg, hg, hnc, hcm, hcs, htake⟩
 ·
  by_cases hm : s.size = 0
  · exact .inl (by rw [h3.2 ⟨rfl, hm⟩])
  ·
   rw [run_append_nil_string (P := P) (w := w) t u ty e i (.int .u8 0) ht hu hi hz s (by omega) (by omega) (by rw [hby]; omega)] at hr
   injection hr with hr1 hr2
   exact .inr ⟨_, by rw [← hr1]; rfl, Nat.le_refl _⟩
 ·
  have hcs' : cur.size = cap := by simpa using hcs
  by_cases hroom : n + s.size ≤ cap
  ·
   rw [Lib.run_append_room_string (P := P) (w := w) t u ty e i ht hu hi hsize g n cap cur hg s hroom (by omega)] at hr
   injection hr with hr1 hr2
   exact .inl (by rw [← hr1]; rfl)
  ·
   have holds : ∀ j u, xs[j]? = some u → w.cell? ((⟨g, 0, none⟩ : Addr).add j) = some u := hown.cells (g := g) rfl
   rw [Lib.run_append_grow_string (P := P) (w := w) t u ty e i (.int .u8 0) ht hu hi hz ⟨g, 0, none⟩ n cap xs (by rw [hsize]; simpa using hxl) holds s (by omega) (by omega) (by rw [hby]; exact growslice_fits (by omega) (by omega))] at hr
   injection hr with hr1 hr2
   exact .inr ⟨_, by rw [← hr1]; rfl, Nat.le_refl _⟩
theorem app_str_step {P : Program} {ops : Array Oper} {o : Oper} {a : Act} {Q : Exit → Act → World → Prop} {K : Act → World → Prop} {w : World} {N : Option Tmp} (base : Nat) (S : List Nat) (a0 : World) (sl x : Operand) (t u : TypeId) (i : TypeInfo)
  (hw : Region.wanted o (yielded ops a.tmps) = true) (hN : o.dst = N)
  (ho : o.op = .call { callee := .builtin .append, args := #[sl, x], argTypes := #[t, u] })
  (ht : P.underlying t = some (.slice 5)) (hu : P.underlying u = some .string) (hi : P.info? 5 = some i) (hz : i.zero = some (.int .u8 0)) (hsize : i.size = 1) (hby : i.bytes = 1)
  (v : Value) (xs : List Int) (s : ByteArray) (hs : a.eval sl = v) (hx : a.eval x = .string s) (hR : Own w base (okS S a0) v xs) (hT : Tu S a0 w) (hB : Below base a0 w) (hl : xs.length + s.size ≤ 140737488355328) (hbase : base ≤ a0.heap.size)
  (h : ∀ v1 w1, Own w1 base (okS S a0) v1 (xs ++ bytesOf s) → Tu S a0 w1 → Below base a0 w1 → K (a.put N v1) w1) :
  if Region.wanted o (yielded ops a.tmps) = true then Oper.wp P o a w K Q else K (a.put N undef) w := by
 rw [if_pos hw]
 subst hN
 have hown := Kd.own_of_R hR
 have hb' : base ≤ w.heap.size := Nat.le_trans hbase hT.size
 obtain ⟨v1, w1, hr, h1, h2, h3⟩ := app_str (P := P) (w := w) base t u o.type 5 i ht hu hi hz hsize hby v xs.length (encs (Value.int .u8) xs) hown s hl hb'
 have hc : encs (Value.int .u8) xs ++ Lib.strCells s = encs (Value.int .u8) (xs ++ bytesOf s) := by
  rw [encs_append]
  congr 1
  simp [encs, bytesOf, Lib.strCells]
 have hl2 : xs.length + s.size = (xs ++ bytesOf s).length := by rw [List.length_append, bytesOf_length]
 rw [hc, hl2] at h1
 have hS : ∀ k, v.ownBlock = some k → k ∈ S ∨ a0.heap.size ≤ k := hR.1
 unfold Oper.wp execOp
 simp only [ho, resolve, invoke, builtin, Sem.run_bind, Sem.run_pure, Result.andThen_ok, List.map_toArray, List.map_cons, List.map_nil, hs, hx, hr]
 refine h v1 w1 (Kd.R_of_own h1 ?_) (hT.grown h2 hS) (hB.grown h2 hb' (own_base hown))
 intro k hk
 rcases h3 with h3 | ⟨b, hb, hle⟩
 · exact hS k (h3 ▸ hk)
 ·
  rw [hb] at hk
  injection hk with hk
  have := hT.size
  exact .inr (by omega)
end Go.Proofs.Ytpflenaoplblkaa.ProD
end
section
namespace Go.Proofs.Ytpflenaoplblkaa.ProE
open Go.RowKit YtpflenaoplblkaaW.PrintWords YtpflenaoplblkaaW.PrintLast ProA ProB ProC ProI ProD
set_option linter.unusedVariables false
set_option linter.unusedSimpArgs false
theorem rbytes_ok' (g : Nat) (A : Option Addr) (n c k : Nat) (kk : Int) (w : World) (h : RdAt w g A n c) (hk : k ≤ n) (hc : n ≤ c) (hkk : kk = (k : Int)) :
  Calls Try.prog 68 #[pt g, .int .i64 kk] w fun e w' => e = .returned (.slice A k c) ∧ w.setCell ⟨g, 0, none⟩ (.slice (adv A c k) (n - k) (c - k)) = w' := by
 subst hkk
 exact rbytes_ok g A n c k w h hk hc
theorem BytesAt.take {w : World} {A : Option Addr} {n : Nat} {xs : List Int} (h : BytesAt w A n xs) (i : Nat) (hi : i ≤ n) : BytesAt w A i (xs.take i) :=
  Kd.C_of_reads ((Kd.reads_of_C (enc := Value.int .u8) (d := (0 : Int)) (h1 := fun _ => rfl) h).take_ i hi)
theorem BytesAt.drop {w : World} {A : Option Addr} {n c : Nat} {xs : List Int} (h : BytesAt w A n xs) (i : Nat) (hi : i ≤ n) (hc : n ≤ c) : BytesAt w (adv A c i) (n - i) (xs.drop i) :=
  Kd.C_of_reads ((Kd.reads_of_C (enc := Value.int .u8) (d := (0 : Int)) (h1 := fun _ => rfl) h).drop_ i hi hc)
theorem adv_ne {A : Option Addr} {c k g : Nat} (h : ∀ a, A = some a → a.block ≠ g) : ∀ a, adv A c k = some a → a.block ≠ g := by
 intro a ha
 unfold adv at ha
 split at ha
 · exact h a ha
 ·
  cases A with
  | none => simp at ha
  | some b =>
   simp only [Option.map_some, Option.some.injEq] at ha
   subst ha
   have := h b rfl
   unfold Addr.add
   split
   · exact this
   · exact this
set_option maxHeartbeats 2000000 in
set_option maxRecDepth 100000 in
theorem nread_ok (g f : Nat) (A : Option Addr) (n c l : Nat) (w : World) (xs : List Int) (F : Flds) (dv : Value)
  (h : RdAt w g A n c) (hf : FdAt w f F dv) (hx : BytesAt w A n xs) (hu : u8s xs) (hg : ∀ a, A = some a → a.block ≠ g) (hc : n ≤ c) (hgf : f ≠ g)
  (h1 : 1 ≤ n) (hl : be (xs.take 1) = (l : Int)) (h2 : 1 + l ≤ n) :
  Calls Try.prog 67 #[pt g, pt f] w fun e w' =>
   e = .returned (.tuple #[]) ∧ RdAt w' g (adv (adv A c 1) (c - 1) l) (n - 1 - l) (c - 1 - l) ∧ FdAt w' f { F with name := strOfNums ((xs.drop 1).take l) } dv ∧ Tu [g, f] w w' := by
 have hv1 : (F.cells dv)[4]? = some (.string F.name) := rfl
 go_enter Try.func67, Try.ntmps67
 go_wp2_with (first
  | (go_at_call 45; refine Calls.mono (rnumber_ok g A n c 1 _ xs h hx hu (fun a ha _ => hg a ha) h1 (by omega) hc) ?_; rintro e w2 ⟨rfl, hw2⟩; have hb2 : FdAt w2 f F dv := (by rw [← hw2]; exact Blk.other hf hgf _); have hg2 : RdAt w2 g (adv A c 1) (n - 1) (c - 1) := (by rw [← hw2]; exact Blk.set (i := 0) h _); have ht2 : Tu [g] w w2 := (by rw [← hw2]; exact (Tu.refl _ _).setCell (.inl (by simp)) _); clear hw2)
  | (go_at_call 68; refine Calls.mono (rbytes_ok' g _ _ _ l _ _ hg2 (by omega) (by omega) (by first | rfl | exact hl)) ?_; rintro e w3 ⟨rfl, hw3⟩; have hb3 : FdAt w3 f F dv := (by rw [← hw3]; exact Blk.other hb2 hgf _); have hg3 : RdAt w3 g (adv (adv A c 1) (c - 1) l) (n - 1 - l) (c - 1 - l) := (by rw [← hw3]; exact Blk.set (i := 0) hg2 _); have ht3 : Tu [g] w w3 := (by rw [← hw3]; exact ht2.setCell (.inl (by simp)) _); clear hw3; have hcv : (convert 22 9 (.slice (adv A c 1) l (c - 1))).run Try.prog w3 = .ok (.string (strOfNums ((xs.drop 1).take l))) w3 := Kd.C_string Try.underlying22 Try.underlying5 Try.underlying9 (BytesAt.tu (BytesAt.take (BytesAt.drop hx 1 h1 hc) l (by omega)) ht3 (fun a ha _ hm => adv_ne hg a ha (by simpa using hm))); have hc3 := Blk.cell hb3 hv1; have hz3 := Blk.frozen (i := 4) hb3))
 go_end0
 simp only [← List.drop_one]
 exact ⟨by first | rfl | trivial, Blk.other hg3 (Ne.symm hgf) _, Blk.set (i := 4) hb3 _, (ht3.mono (fun i hi => .inl (by simp at hi ⊢; exact .inl hi))).setCell (.inl (by simp)) _⟩
set_option maxHeartbeats 2000000 in
set_option maxRecDepth 100000 in
theorem nread_no1 (g f : Nat) (A : Option Addr) (n c : Nat) (w : World) (h : RdAt w g A n c) (h1 : n < 1) :
  Calls Try.prog 67 #[pt g, pt f] w fun e w' => e = wrong 121 ∧ Tu [g] w w' := by
 go_enter Try.func67, Try.ntmps67
 go_wp2_with (go_at_call 45; refine Calls.mono (rnumber_no g A n c 1 _ h h1) ?_; rintro e w2 ⟨rfl, rfl⟩)
 exact ⟨rfl, rfl, Tu.refl _ _⟩
set_option maxHeartbeats 2000000 in
set_option maxRecDepth 100000 in
theorem nread_no2 (g f : Nat) (A : Option Addr) (n c l : Nat) (w : World) (xs : List Int)
  (h : RdAt w g A n c) (hx : BytesAt w A n xs) (hu : u8s xs) (hg : ∀ a, A = some a → a.block ≠ g) (hc : n ≤ c)
  (h1 : 1 ≤ n) (hl : be (xs.take 1) = (l : Int)) (h2 : n < 1 + l) :
  Calls Try.prog 67 #[pt g, pt f] w fun e w' => e = wrong 121 ∧ Tu [g] w w' := by
 go_enter Try.func67, Try.ntmps67
 go_wp2_with (first
  | (go_at_call 45; refine Calls.mono (rnumber_ok g A n c 1 _ xs h hx hu (fun a ha _ => hg a ha) h1 (by omega) hc) ?_; rintro e w2 ⟨rfl, hw2⟩; have hg2 : RdAt w2 g (adv A c 1) (n - 1) (c - 1) := (by rw [← hw2]; exact Blk.set (i := 0) h _); have ht2 : Tu [g] w w2 := (by rw [← hw2]; exact (Tu.refl _ _).setCell (.inl (by simp)) _); clear hw2)
  | (go_at_call 68; refine Calls.mono (rbytes_no g _ _ _ _ _ hg2 (by first | omega | (rw [hl]; omega))) ?_; rintro e w3 ⟨rfl, rfl⟩))
 exact ⟨rfl, rfl, ht2⟩
theorem nfits (f : Nat) (w : World) (F : Flds) (dv : Value) (hf : FdAt w f F dv) :
  Calls Try.prog 69 #[pt f] w fun e w' => e = .returned (.bool (nameOk F.name)) ∧ Below w.heap.size w w' := by
 have hv1 : w.cell? ⟨f, 4, none⟩ = some (.string F.name) := Blk.cell (i := 4) hf rfl
 go_enter Try.func69, Try.ntmps69
 go_wp2_with (go_at_call 70; refine Calls.mono (isName_any _ _) ?_; rintro e w2 ⟨rfl, hb⟩)
 go_ret
 exact ⟨rfl, hb⟩
theorem nclear (f : Nat) (w : World) (F : Flds) (dv : Value) (hf : FdAt w f F dv) :
  Calls Try.prog 72 #[pt f] w fun e w' => e = .returned (.tuple #[]) ∧ FdAt w' f { F with name := ByteArray.empty } dv ∧ Tu [f] w w' := by
 have hv1 : w.cell? ⟨f, 4, none⟩ = some (.string F.name) := Blk.cell (i := 4) hf rfl
 have hz2 := Blk.frozen (i := 4) hf
 go_enter Try.func72, Try.ntmps72
 go_wp2
 go_end0
 exact ⟨rfl, Blk.set (i := 4) hf _, (Tu.refl _ _).setCell (.inl (by simp)) _⟩
theorem bclear (f : Nat) (w : World) (F : Flds) (dv : Value) (hf : FdAt w f F dv) :
  Calls Try.prog 76 #[pt f] w fun e w' => e = .returned (.tuple #[]) ∧ FdAt w' f { F with data := [] } (.slice none 0 0) ∧ Tu [f] w w' := by
 have hv1 : w.cell? ⟨f, 5, none⟩ = some dv := Blk.cell (i := 5) hf rfl
 have hz2 := Blk.frozen (i := 5) hf
 go_enter Try.func76, Try.ntmps76
 go_wp2
 go_end0
 exact ⟨rfl, Blk.set (i := 5) hf _, (Tu.refl _ _).setCell (.inl (by simp)) _⟩
theorem bfits (f a : Nat) (hi : Int) (w : World) (F : Flds) (A : Option Addr) (n c : Nat) (hf : FdAt w f F (.slice A n c)) (ha : Blk w a #[.int .i64 hi] 3) :
  Calls Try.prog 74 #[pt f, pt a] w fun e w' => e = .returned (.bool (decide ((n : Int) ≤ hi))) ∧ ∃ nq, w' = w.drewN nq := by
 have hv1 : w.cell? ⟨f, 5, none⟩ = some (.slice A n c) := Blk.cell (i := 5) hf rfl
 have h1 : w.cell? ⟨a, 0, none⟩ = some (.int .i64 hi) := Blk.cell (i := 0) ha rfl
 go_enter Try.func74, Try.ntmps74
 go_wp2_with fail
 go_quiet (fail)
 go_wp2
 go_ret
 exact ⟨rfl, _, rfl⟩
set_option maxHeartbeats 2000000 in
set_option maxRecDepth 100000 in
theorem bread_ok (g f : Nat) (A : Option Addr) (n c l : Nat) (w : World) (xs : List Int) (F : Flds) (dv : Value)
  (h : RdAt w g A n c) (hf : FdAt w f F dv) (hx : BytesAt w A n xs) (hu : u8s xs) (hg : ∀ a, A = some a → a.block ≠ g) (hc : n ≤ c) (hgf : f ≠ g)
  (h1 : 4 ≤ n) (hl : be (xs.take 4) = (l : Int)) (h2 : 4 + l ≤ n) (hbig : l ≤ 140737488350000) :
  Calls Try.prog 73 #[pt g, pt f] w fun e w' => ∃ dv',
   e = .returned (.tuple #[]) ∧ RdAt w' g (adv (adv A c 4) (c - 4) l) (n - 4 - l) (c - 4 - l) ∧ FdAt w' f { F with data := (xs.drop 4).take l } dv' ∧ Own w' w.heap.size (okS [] w) dv' ((xs.drop 4).take l) ∧ Tu [g, f] w w' := by
 have hv1 : (F.cells dv)[5]? = some dv := rfl
 have hlx := BytesAt.len hx
 have hlen0 : ([] ++ (xs.drop 4).take l).length = l := by simp; omega
 go_enter Try.func73, Try.ntmps73
 go_wp2_with (first
  | (go_at_call 45; refine Calls.mono (rnumber_ok g A n c 4 _ xs h hx hu (fun a ha _ => hg a ha) h1 (by omega) hc) ?_; rintro e w2 ⟨rfl, hw2⟩; have hb2 : FdAt w2 f F dv := (by rw [← hw2]; exact Blk.other hf hgf _); have hg2 : RdAt w2 g (adv A c 4) (n - 4) (c - 4) := (by rw [← hw2]; exact Blk.set (i := 0) h _); have ht2 : Tu [g] w w2 := (by rw [← hw2]; exact (Tu.refl _ _).setCell (.inl (by simp)) _); clear hw2)
  | (go_at_call 68; refine Calls.mono (rbytes_ok' g _ _ _ l _ _ hg2 (by omega) (by omega) (by first | rfl | exact hl)) ?_; rintro e w3 ⟨rfl, hw3⟩; have hb3 : FdAt w3 f F dv := (by rw [← hw3]; exact Blk.other hb2 hgf _); have hg3 : RdAt w3 g (adv (adv A c 4) (c - 4) l) (n - 4 - l) (c - 4 - l) := (by rw [← hw3]; exact Blk.set (i := 0) hg2 _); have ht3 : Tu [g] w w3 := (by rw [← hw3]; exact ht2.setCell (.inl (by simp)) _); clear hw3; have hx3 : BytesAt w3 (adv A c 4) l ((xs.drop 4).take l) := BytesAt.tu (BytesAt.take (BytesAt.drop hx 4 h1 hc) l (by omega)) ht3 (fun a ha _ hm => adv_ne hg a ha (by simpa using hm)))
  | ((with_reducible refine gate_builtin (b := .append) (xs := #[.const (.slice none 0 0), .tmp 8]) rfl ?_); at_builtin; refine Kd.R_append_rows (Kd.int .u8) (Rr := (Kd.int .u8).K w3) (w0 := w3) w3.heap.size rfl (.const (.slice none 0 0)) (.tmp 8) 22 5 (.int .u8 0) 1 rfl Try.underlying22 info5 rfl (by decide) (by omega) (.slice none 0 0) [] ((xs.drop 4).take l) (adv A c 4) l (c - 4) (okS [] w3) (fun _ => False) rfl rfl (Kd.R_nil _ _ _ _ _) hx3 (fun _ _ hh => hh) (fun _ hk => hk.elim) (fun q hq => .inr hq) (Below.refl _ _) (Nat.le_refl _) ?aL ?_; (case aL => simp only [List.length_nil]; omega); intro v1 w4 ho hb1 hg4 hat; obtain ⟨A1, c1, hv⟩ := Kd.R_slice ho; rw [hlen0] at hv; subst hv; have hn : (Value.slice none 0 0).ownBlock = none := rfl; have ht4 : Tu [g] w w4 := ht3.grown hg4 (fun q hq => by simp [Value.ownBlock] at hq); have hb4 : FdAt w4 f F dv := (hg4.block f hb3.lt (by simp [Value.ownBlock])).trans hb3; have hg5 : RdAt w4 g (adv (adv A c 4) (c - 4) l) (n - 4 - l) (c - 4 - l) := (hg4.block g hg3.lt (by simp [Value.ownBlock])).trans hg3; have hc4 := Blk.cell hb4 hv1; have hz4 := Blk.frozen (i := 5) hb4; have HO := Lib.hid ho; have hnf : ∀ k, okS [] w3 k → k ≠ f := (fun k hk => by have := hb3.lt; rcases hk with hk | hk; simp at hk; omega); have hmono : ∀ k, okS [] w3 k → okS [] w k := (fun k hk => by have := ht3.size; rcases hk with hk | hk; simp at hk; exact .inr (by omega)); clear ho))
 go_end0
 exact ⟨_, rfl, Blk.other hg5 (Ne.symm hgf) _, Blk.set (i := 5) hb4 _, Kd.R_mono (Kd.R_lower (Kd.R_far HO.out (p := ⟨f, 5, none⟩) hnf _) ht3.size) hmono, (ht4.mono (fun i hi => .inl (by simp at hi ⊢; exact .inl hi))).setCell (.inl (by simp)) _⟩
end Go.Proofs.Ytpflenaoplblkaa.ProE
end
section
namespace Go.Proofs.Ytpflenaoplblkaa.ProF
open Go.RowKit YtpflenaoplblkaaW.PrintWords YtpflenaoplblkaaW.PrintLast ProA ProB ProC ProI ProD ProE
set_option linter.unusedVariables false
set_option linter.unusedSimpArgs false
set_option maxHeartbeats 2000000 in
set_option maxRecDepth 100000 in
theorem bread_no1 (g f : Nat) (A : Option Addr) (n c : Nat) (w : World) (h : RdAt w g A n c) (h1 : n < 4) :
  Calls Try.prog 73 #[pt g, pt f] w fun e w' => e = wrong 121 ∧ Tu [g] w w' := by
 go_enter Try.func73, Try.ntmps73
 go_wp2_with (go_at_call 45; refine Calls.mono (rnumber_no g A n c 4 _ h h1) ?_; rintro e w2 ⟨rfl, rfl⟩)
 exact ⟨rfl, rfl, Tu.refl _ _⟩
set_option maxHeartbeats 2000000 in
set_option maxRecDepth 100000 in
theorem bread_no2 (g f : Nat) (A : Option Addr) (n c l : Nat) (w : World) (xs : List Int)
  (h : RdAt w g A n c) (hx : BytesAt w A n xs) (hu : u8s xs) (hg : ∀ a, A = some a → a.block ≠ g) (hc : n ≤ c)
  (h1 : 4 ≤ n) (hl : be (xs.take 4) = (l : Int)) (h2 : n < 4 + l) :
  Calls Try.prog 73 #[pt g, pt f] w fun e w' => e = wrong 121 ∧ Tu [g] w w' := by
 go_enter Try.func73, Try.ntmps73
 go_wp2_with (first
  | (go_at_call 45; refine Calls.mono (rnumber_ok g A n c 4 _ xs h hx hu (fun a ha _ => hg a ha) h1 (by omega) hc) ?_; rintro e w2 ⟨rfl, hw2⟩; have hg2 : RdAt w2 g (adv A c 4) (n - 4) (c - 4) := (by rw [← hw2]; exact Blk.set (i := 0) h _); have ht2 : Tu [g] w w2 := (by rw [← hw2]; exact (Tu.refl _ _).setCell (.inl (by simp)) _); clear hw2)
  | (go_at_call 68; refine Calls.mono (rbytes_no g _ _ _ _ _ hg2 (by first | omega | (rw [hl]; omega))) ?_; rintro e w3 ⟨rfl, rfl⟩))
 exact ⟨rfl, rfl, ht2⟩
set_option maxHeartbeats 2000000 in
set_option maxRecDepth 100000 in
theorem nwrite (base : Nat) (S : List Nat) (f : Nat) (v : Value) (xs : List Int) (w : World) (F : Flds) (dv : Value) (hf : FdAt w f F dv) (hs : F.name.size ≤ 1000000) (hfS : f ∉ S)
  (hR : Own w base (okS S w) v xs) (hbs : base ≤ w.heap.size) (hl : xs.length ≤ 1407374883500) :
  Calls Try.prog 71 #[v, pt f] w fun e w' => ∃ v', e = .returned v' ∧ Own w' base (okS S w) v' (xs ++ (beB F.name.size 1 ++ bytesOf F.name)) ∧ Tu S w w' ∧ Below base w w' := by
 have hv1 : w.cell? ⟨f, 4, none⟩ = some (.string F.name) := Blk.cell (i := 4) hf rfl
 go_enter Try.func71, Try.ntmps71
 go_wp2_with fail
 refine start_ (n := 13) (S := fun w' => w'.cell? ⟨f, 4, none⟩ = some (.string F.name)) (ds := [11]) #[false, false, false, false, false, false, false, false, false, false, false, false, false] (by kernel_rfl) rfl rfl hv1 (fun hHeld => ?_)
 refine pu_ (i := 0) (N := some 5) (v := ?_) (a' := ?_) rfl rfl (by kernel_rfl) (fun _ _ _ h => h) (by rfl) ?_ ?_ ?_
 rotate_left
 · (intro w'; go_simp; with_reducible rfl)
 rotate_left
 · (simp only [put_s, List.set, i64_w, i32_w]; rfl)
 refine pu_ (i := 1) (N := some 6) (v := ?_) (a' := ?_) rfl rfl (by kernel_rfl) (fun _ _ _ h => h) (by rfl) ?_ ?_ ?_
 rotate_left
 · (intro w'; go_simp; with_reducible rfl)
 rotate_left
 · (simp only [put_s, List.set, i64_w, i32_w]; rfl)
 refine pu_ (i := 2) (N := some 7) (v := ?_) (a' := ?_) rfl rfl (by kernel_rfl) (fun _ _ _ h => h) (by rfl) ?_ ?_ ?_
 rotate_left
 · (intro w'; go_simp; with_reducible rfl)
 rotate_left
 · (simp only [put_s, List.set, i64_w, i32_w]; rfl)
 refine pu_ (i := 3) (N := some 8) (v := ?_) (a' := ?_) rfl rfl (by kernel_rfl) (fun _ _ _ h => h) (by rfl) ?_ ?_ ?_
 rotate_left
 · (intro w'; go_simp; with_reducible rfl)
 rotate_left
 · (simp only [put_s, List.set, i64_w, i32_w]; rfl)
 refine tk_ (i := 4) (N := some 9) (v := ?_) (a' := ?_) rfl rfl (by kernel_rfl) (fun _ _ _ h => h) (by rfl) ?_ hHeld ?_ ?_
 rotate_left
 · (intro w' s0; go_simp; with_reducible rfl)
 rotate_left
 · (simp only [put_s, List.set, i64_w, i32_w]; rfl)
 refine pu_ (i := 5) (N := some 10) (v := ?_) (a' := ?_) rfl rfl (by kernel_rfl) (fun _ _ _ h => h) (by rfl) ?_ ?_ ?_
 rotate_left
 · (intro w'; go_simp; with_reducible rfl)
 rotate_left
 · (simp only [put_s, List.set, i64_w, i32_w]; rfl)
 refine pu_ (i := 7) (N := some 12) (v := ?_) (a' := ?_) rfl rfl (by kernel_rfl) (fun _ _ _ h => h) (by rfl) ?_ ?_ ?_
 rotate_left
 · (intro w'; go_simp; with_reducible rfl)
 rotate_left
 · (simp only [put_s, List.set, i64_w, i32_w]; rfl)
 refine pu_ (i := 8) (N := some 13) (v := ?_) (a' := ?_) rfl rfl (by kernel_rfl) (fun _ _ _ h => h) (by rfl) ?_ ?_ ?_
 rotate_left
 · (intro w'; go_simp; with_reducible rfl)
 rotate_left
 · (simp only [put_s, List.set, i64_w, i32_w]; rfl)
 refine pu_ (i := 9) (N := some 14) (v := ?_) (a' := ?_) rfl rfl (by kernel_rfl) (fun _ _ _ h => h) (by rfl) ?_ ?_ ?_
 rotate_left
 · (intro w'; go_simp; with_reducible rfl)
 rotate_left
 · (simp only [put_s, List.set, i64_w, i32_w]; rfl)
 refine tk_ (i := 10) (N := some 15) (v := ?_) (a' := ?_) rfl rfl (by kernel_rfl) (fun _ _ _ h => h) (by rfl) ?_ hHeld ?_ ?_
 rotate_left
 · (intro w' s0; go_simp; with_reducible rfl)
 rotate_left
 · (simp only [put_s, List.set, i64_w, i32_w]; rfl)
 refine on_ (i := 6) (N := some 11) rfl rfl (by kernel_rfl) (by decide) (fun K hK => ?_)
 refine goesV #[] Try.func48 (by kernel_rfl) rfl #[v, .int .i64 F.name.size, .int .i64 1] (by rfl) rfl rfl rfl (by simp [Act.eval]) ?_
 refine Calls.mono (put_ok base S v xs _ 1 _ (Kd.R_step hR (fun _ _ _ => rfl)) hbs (by omega) (by omega) (by omega) (by omega)) ?_
 rintro e w2 ⟨v', rfl, ho, ht, hb2⟩
 have ht' : Tu S w w2 := ((Tu.refl _ _).drew).trans ht
 have hb' : Below base w w2 := ((Below.refl _ _).drew).trans hb2
 have hR' : Own w2 base (okS S w) v' (xs ++ beB F.name.size 1) := Kd.R_mono ho (fun k hk => hk)
 have hS2 := Blk.cell (i := 4) (hf.tu ht' hfS) rfl
 refine .inl ⟨_, rfl, ?_⟩
 refine hK.out _ _ hS2 (fun hHeld => ?_)
 clear hK K
 refine norm_ (a' := ?_) ?_ ?_
 rotate_left
 ·
  show Act.put _ (some 11) _ = _
  simp only [put_s, List.set, i64_w, i32_w]
  rfl
 refine la_ (i := 11) (N := some 16) rfl rfl (by kernel_rfl) (by decide) (fun K hK => ?_)
 refine app_str_step base S w (.tmp 11) (.tmp 15) 22 9 Try.t5 (by rfl) rfl rfl Try.underlying22 Try.underlying9 (by kernel_rfl) rfl rfl rfl _ _ F.name rfl rfl hR' ht' hb' (by simp [beB_len]; omega) hbs ?_
 intro v1 w3 ho3 ht3 hb3
 refine hK.out _ _ ?_
 clear hK K
 refine norm_ (a' := ?_) ?_ ?_
 rotate_left
 ·
  show Act.put _ (some 16) _ = _
  simp only [put_s, List.set, i64_w, i32_w]
  rfl
 refine pu_ (i := 12) (N := some 4) (v := ?_) (a' := ?_) rfl rfl (by kernel_rfl) (fun _ _ _ h => h) (by rfl) ?_ ?_ ?_
 rotate_left
 · (intro w'; go_simp; with_reducible rfl)
 rotate_left
 · (simp only [put_s, List.set, i64_w, i32_w]; rfl)
 refine done_ (by kernel_rfl) ?_
 go_wp2
 go_ret
 refine ⟨_, rfl, ?_, ht3, hb3⟩
 rw [← List.append_assoc]
 exact ho3
set_option maxHeartbeats 2000000 in
set_option maxRecDepth 100000 in
theorem bwrite (base : Nat) (S : List Nat) (f : Nat) (v : Value) (xs : List Int) (w : World) (F : Flds) (A : Option Addr) (n c : Nat) (hf : FdAt w f F (.slice A n c)) (hx : BytesAt w A n F.data) (hA : ∀ a, A = some a → 0 < n → a.block ∉ S) (hs : n ≤ 1407374883500) (hfS : f ∉ S)
  (hR : Own w base (okS S w) v xs) (hbs : base ≤ w.heap.size) (hl : xs.length ≤ 1407374883500) :
  Calls Try.prog 75 #[v, pt f] w fun e w' => ∃ v', e = .returned v' ∧ Own w' base (okS S w) v' (xs ++ (beB n 4 ++ F.data)) ∧ Tu S w w' ∧ Below base w w' := by
 have hv1 : w.cell? ⟨f, 5, none⟩ = some (.slice A n c) := Blk.cell (i := 5) hf rfl
 go_enter Try.func75, Try.ntmps75
 go_wp2_with fail
 refine start_ (n := 13) (S := fun w' => w'.cell? ⟨f, 5, none⟩ = some (.slice A n c)) (ds := [11]) #[false, false, false, false, false, false, false, false, false, false, false, false, false] (by kernel_rfl) rfl rfl hv1 (fun hHeld => ?_)
 refine pu_ (i := 0) (N := some 5) (v := ?_) (a' := ?_) rfl rfl (by kernel_rfl) (fun _ _ _ h => h) (by rfl) ?_ ?_ ?_
 rotate_left
 · (intro w'; go_simp; with_reducible rfl)
 rotate_left
 · (simp only [put_s, List.set, i64_w, i32_w]; rfl)
 refine pu_ (i := 1) (N := some 6) (v := ?_) (a' := ?_) rfl rfl (by kernel_rfl) (fun _ _ _ h => h) (by rfl) ?_ ?_ ?_
 rotate_left
 · (intro w'; go_simp; with_reducible rfl)
 rotate_left
 · (simp only [put_s, List.set, i64_w, i32_w]; rfl)
 refine pu_ (i := 2) (N := some 7) (v := ?_) (a' := ?_) rfl rfl (by kernel_rfl) (fun _ _ _ h => h) (by rfl) ?_ ?_ ?_
 rotate_left
 · (intro w'; go_simp; with_reducible rfl)
 rotate_left
 · (simp only [put_s, List.set, i64_w, i32_w]; rfl)
 refine pu_ (i := 3) (N := some 8) (v := ?_) (a' := ?_) rfl rfl (by kernel_rfl) (fun _ _ _ h => h) (by rfl) ?_ ?_ ?_
 rotate_left
 · (intro w'; go_simp; with_reducible rfl)
 rotate_left
 · (simp only [put_s, List.set, i64_w, i32_w]; rfl)
 refine tk_ (i := 4) (N := some 9) (v := ?_) (a' := ?_) rfl rfl (by kernel_rfl) (fun _ _ _ h => h) (by rfl) ?_ hHeld ?_ ?_
 rotate_left
 · (intro w' s0; go_simp; with_reducible rfl)
 rotate_left
 · (simp only [put_s, List.set, i64_w, i32_w]; rfl)
 refine pu_ (i := 5) (N := some 10) (v := ?_) (a' := ?_) rfl rfl (by kernel_rfl) (fun _ _ _ h => h) (by rfl) ?_ ?_ ?_
 rotate_left
 · (intro w'; go_simp; with_reducible rfl)
 rotate_left
 · (simp only [put_s, List.set, i64_w, i32_w]; rfl)
 refine pu_ (i := 7) (N := some 12) (v := ?_) (a' := ?_) rfl rfl (by kernel_rfl) (fun _ _ _ h => h) (by rfl) ?_ ?_ ?_
 rotate_left
 · (intro w'; go_simp; with_reducible rfl)
 rotate_left
 · (simp only [put_s, List.set, i64_w, i32_w]; rfl)
 refine pu_ (i := 8) (N := some 13) (v := ?_) (a' := ?_) rfl rfl (by kernel_rfl) (fun _ _ _ h => h) (by rfl) ?_ ?_ ?_
 rotate_left
 · (intro w'; go_simp; with_reducible rfl)
 rotate_left
 · (simp only [put_s, List.set, i64_w, i32_w]; rfl)
 refine pu_ (i := 9) (N := some 14) (v := ?_) (a' := ?_) rfl rfl (by kernel_rfl) (fun _ _ _ h => h) (by rfl) ?_ ?_ ?_
 rotate_left
 · (intro w'; go_simp; with_reducible rfl)
 rotate_left
 · (simp only [put_s, List.set, i64_w, i32_w]; rfl)
 refine tk_ (i := 10) (N := some 15) (v := ?_) (a' := ?_) rfl rfl (by kernel_rfl) (fun _ _ _ h => h) (by rfl) ?_ hHeld ?_ ?_
 rotate_left
 · (intro w' s0; go_simp; with_reducible rfl)
 rotate_left
 · (simp only [put_s, List.set, i64_w, i32_w]; rfl)
 refine on_ (i := 6) (N := some 11) rfl rfl (by kernel_rfl) (by decide) (fun K hK => ?_)
 refine goesV #[] Try.func48 (by kernel_rfl) rfl #[v, .int .i64 n, .int .i64 4] (by rfl) rfl rfl rfl (by simp [Act.eval]) ?_
 refine Calls.mono (put_ok base S v xs _ 4 _ (Kd.R_step hR (fun _ _ _ => rfl)) hbs (by omega) (by omega) (by omega) (by omega)) ?_
 rintro e w2 ⟨v', rfl, ho, ht, hb2⟩
 have ht' : Tu S w w2 := ((Tu.refl _ _).drew).trans ht
 have hb' : Below base w w2 := ((Below.refl _ _).drew).trans hb2
 have hR' : Own w2 base (okS S w) v' (xs ++ beB n 4) := Kd.R_mono ho (fun k hk => hk)
 have hS2 := Blk.cell (i := 5) (hf.tu ht' hfS) rfl
 refine .inl ⟨_, rfl, ?_⟩
 refine hK.out _ _ hS2 (fun hHeld => ?_)
 clear hK K
 refine norm_ (a' := ?_) ?_ ?_
 rotate_left
 ·
  show Act.put _ (some 11) _ = _
  simp only [put_s, List.set, i64_w, i32_w]
  rfl
 refine la_ (i := 11) (N := some 16) rfl rfl (by kernel_rfl) (by decide) (fun K hK => ?_)
 refine Kd.R_append_rows_step (Kd.int .u8) (Rr := (Kd.int .u8).K w2) (w0 := w) base (by rfl) (.tmp 11) (.tmp 15) 22 5 (.int .u8 0) 1 rfl Try.underlying22 info5 rfl (by decide) (by omega) _ (xs ++ beB n 4) F.data A n c (okS S w) (fun _ => False) rfl rfl hR' (BytesAt.tu hx ht' hA) (fun _ _ hh => hh) (fun _ hk => hk.elim) (fun q hq => .inr (Nat.le_trans ht'.size hq)) hb' (Nat.le_trans hbs ht'.size) (by simp [beB_len]; omega) ?_
 intro v1 w3 ho3 hb3 hg3 hat
 have ht3 : Tu S w w3 := ht'.grown hg3 (fun q hq => hR'.1 q hq)
 refine hK.out _ _ ?_
 clear hK K
 refine norm_ (a' := ?_) ?_ ?_
 rotate_left
 ·
  show Act.put _ (some 16) _ = _
  simp only [put_s, List.set, i64_w, i32_w]
  rfl
 refine pu_ (i := 12) (N := some 4) (v := ?_) (a' := ?_) rfl rfl (by kernel_rfl) (fun _ _ _ h => h) (by rfl) ?_ ?_ ?_
 rotate_left
 · (intro w'; go_simp; with_reducible rfl)
 rotate_left
 · (simp only [put_s, List.set, i64_w, i32_w]; rfl)
 refine done_ (by kernel_rfl) ?_
 go_wp2
 go_ret
 refine ⟨_, rfl, ?_, ht3, hb3⟩
 rw [← List.append_assoc]
 exact ho3
end Go.Proofs.Ytpflenaoplblkaa.ProF
end
section
namespace Go.Proofs.Ytpflenaoplblkaa.ProG
open Go.RowKit YtpflenaoplblkaaW.PrintWords YtpflenaoplblkaaW.PrintLast ProA ProB ProC ProI ProD ProE ProF
set_option linter.unusedVariables false
set_option linter.unusedSimpArgs false
inductive Wh | tn | n | m
def Wh.fn : Wh → FuncId | .tn => 41 | .n => 44 | .m => 49
inductive PS | num (o : Wh) (k : Nat) (lo hi : Int) | name | blob (hi : Int)
abbrev fnv (F : FuncId) (cap : Array Value) : Value := .func (Fn.func F) #[] cap
def PartAt (w : World) (lo hi : Nat) (v : Value) : PS → Prop
 | .num o k l h => ∃ a4 a5 a6 a7, v = .agg #[fnv 63 #[pt a4, pt a7], fnv 64 #[pt a7, pt a5, pt a6], fnv 65 #[pt a7, pt a4], fnv 66 #[pt a7]] ∧
  (lo ≤ a4 ∧ a4 < hi ∧ lo ≤ a5 ∧ a5 < hi ∧ lo ≤ a6 ∧ a6 < hi ∧ lo ≤ a7 ∧ a7 < hi) ∧
  Blk w a4 #[.int .i64 k] 3 ∧ Blk w a5 #[.int .i64 l] 3 ∧ Blk w a6 #[.int .i64 h] 3 ∧ Blk w a7 #[fnv o.fn #[]] 93
 | .name => v = .agg #[fnv 67 #[], fnv 69 #[], fnv 71 #[], fnv 72 #[]]
 | .blob h => ∃ a, v = .agg #[fnv 73 #[], fnv 74 #[pt a], fnv 75 #[], fnv 76 #[]] ∧ (lo ≤ a ∧ a < hi) ∧ Blk w a #[.int .i64 h] 3
theorem PartAt.agg {w : World} {lo hi : Nat} {v : Value} {p : PS} (h : PartAt w lo hi v p) : ∃ f0 f1 f2 f3, v = .agg #[f0, f1, f2, f3] := by
 cases p with
 | num o k l h' => obtain ⟨a4, a5, a6, a7, rfl, _⟩ := h; exact ⟨_, _, _, _, rfl⟩
 | name => exact ⟨_, _, _, _, h⟩
 | blob h' => obtain ⟨a, rfl, _⟩ := h; exact ⟨_, _, _, _, rfl⟩
theorem Blk.below {w w' : World} {g : Nat} {cs : Array Value} {t : TypeId} (h : Blk w g cs t) (hb : Below w.heap.size w w') : Blk w' g cs t := (hb.block g h.lt).trans h
theorem PartAt.step {w w' : World} {lo hi lo' hi' : Nat} {v : Value} {p : PS} (h : PartAt w lo hi v p) (hb : ∀ k, lo ≤ k → k < hi → w'.heap[k]? = w.heap[k]?) (h1 : lo' ≤ lo) (h2 : hi ≤ hi') : PartAt w' lo' hi' v p := by
 cases p with
 | num o k l h' =>
  obtain ⟨a4, a5, a6, a7, rfl, ⟨q1, q2, q3, q4, q5, q6, q7, q8⟩, b1, b2, b3, b4⟩ := h
  exact ⟨_, _, _, _, rfl, by omega, (hb _ q1 q2).trans b1, (hb _ q3 q4).trans b2, (hb _ q5 q6).trans b3, (hb _ q7 q8).trans b4⟩
 | name => exact h
 | blob h' =>
  obtain ⟨a, rfl, ⟨q1, q2⟩, b1⟩ := h
  exact ⟨_, rfl, by omega, (hb _ q1 q2).trans b1⟩
theorem PartAt.below {w w' : World} {lo hi lo' hi' : Nat} {v : Value} {p : PS} (h : PartAt w lo hi v p) (hb : Below w.heap.size w w') (hw : hi ≤ w.heap.size) (h1 : lo' ≤ lo) (h2 : hi ≤ hi') : PartAt w' lo' hi' v p :=
  h.step (fun k _ hk => hb.block k (by omega)) h1 h2
theorem hmf (fn : Fn) (first cap : Array Value) (w : World) : (Instr.makeFunc fn first cap).run Try.prog w = .ok (.func fn first cap) w := rfl
theorem blkNew {w : World} {g : Nat} {cs : Array Value} {t : TypeId} (h : g = w.heap.size) : Blk (w.alloc (.cells cs t)) g cs t := by
 subst h
 exact heap_alloc_new w _
theorem blkOld {w : World} {g : Nat} {cs : Array Value} {t : TypeId} {o : Obj} (h : Blk w g cs t) : Blk (w.alloc o) g cs t := (Below.heap_alloc w o g h.lt).trans h
set_option maxHeartbeats 1000000 in
theorem number_ok (o : Wh) (k : Nat) (l h : Int) (w : World) :
  Calls Try.prog 40 #[.int .i64 k, .int .i64 l, .int .i64 h, fnv o.fn #[]] w fun e w' => ∃ v, e = .returned v ∧ PartAt w' w.heap.size w'.heap.size v (.num o k l h) ∧ Below w.heap.size w w' := by
 have hm := hmf
 go_enter Try.func40, Try.ntmps40
 go_wp2
 go_returns
 refine ⟨_, rfl, ⟨_, _, _, _, rfl, by simp; omega, ?_, ?_, ?_, ?_⟩, by go_grown⟩
 · exact blkOld (blkOld (blkOld (blkOld (blkNew rfl))))
 · exact blkOld (blkOld (blkOld (blkNew (by simp))))
 · exact blkOld (blkOld (blkNew (by simp)))
 · exact blkOld (blkNew (by simp))
theorem name_ok (w : World) : Calls Try.prog 42 #[] w fun e w' => ∃ v, e = .returned v ∧ PartAt w' w.heap.size w'.heap.size v .name ∧ Below w.heap.size w w' := by
 have hm := hmf
 go_enter Try.func42, Try.ntmps42
 go_wp2
 go_returns
 exact ⟨_, rfl, rfl, by go_grown⟩
theorem blob_ok (h : Int) (w : World) : Calls Try.prog 43 #[.int .i64 h] w fun e w' => ∃ v, e = .returned v ∧ PartAt w' w.heap.size w'.heap.size v (.blob h) ∧ Below w.heap.size w w' := by
 have hm := hmf
 go_enter Try.func43, Try.ntmps43
 go_wp2
 go_returns
 refine ⟨_, rfl, ⟨_, rfl, by simp; omega, ?_⟩, by go_grown⟩
 exact blkOld (blkNew rfl)
end Go.Proofs.Ytpflenaoplblkaa.ProG
end
