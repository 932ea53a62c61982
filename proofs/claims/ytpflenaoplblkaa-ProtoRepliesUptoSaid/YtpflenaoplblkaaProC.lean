import Derived.Test.YtpflenaoplblkaaProB
import Derived.Test.YtpflenaoplblkaaWLast
namespace Go.Proofs.Ytpflenaoplblkaa.ProC
open Go.RowKit Go.Proofs.YtpflenaoplblkaaW.PrintWords Go.Proofs.YtpflenaoplblkaaW.PrintLast Go.Proofs.Ytpflenaoplblkaa.ProA Go.Proofs.Ytpflenaoplblkaa.ProB
set_option linter.unusedVariables false
set_option linter.unusedSimpArgs false
theorem Blk.cell {w : World} {g i : Nat} {cs : Array Value} {t : TypeId} {v : Value} (h : Blk w g cs t) (hv : cs[i]? = some v) : w.cell? ⟨g, i, none⟩ = some v := by simp [World.cell?, h, hv]
theorem Blk.frozen {w : World} {g i : Nat} {cs : Array Value} {t : TypeId} (h : Blk w g cs t) : w.frozen? ⟨g, i, none⟩ = false := frozen_of_row _ _ _ _ _ h
theorem Blk.set {w : World} {g i : Nat} {cs : Array Value} {t : TypeId} (h : Blk w g cs t) (v : Value) : Blk (w.setCell ⟨g, i, none⟩ v) g (cs.setIfInBounds i v) t := heap_setCell_same _ _ _ _ _ _ h
theorem Blk.other {w : World} {g : Nat} {p : Addr} {cs : Array Value} {t : TypeId} (h : Blk w g cs t) (hp : g ≠ p.block) (v : Value) : Blk (w.setCell p v) g cs t := (Below.heap_setCell _ _ _ _ hp).trans h
/-- what stands in fields -/
structure Flds where
  kind : Int
  tn : Int
  n : Int
  m : Int
  name : ByteArray
  data : List Int
def Flds.cells (F : Flds) (dv : Value) : Array Value := #[.int .i64 F.kind, .int .i64 F.tn, .int .i64 F.n, .int .i64 F.m, .string F.name, dv]
abbrev FdAt (w : World) (f : Nat) (F : Flds) (dv : Value) : Prop := Blk w f (F.cells dv) 71
abbrev RdAt (w : World) (g : Nat) (A : Option Addr) (n c : Nat) : Prop := Blk w g #[.slice A n c] 99
abbrev pt (g : Nat) : Value := .pointer (some ⟨g, 0, none⟩)
/-- A call of a function's value in a region that draws, that returns or panics. -/
theorem goesV {P : Program} {ops : Array Oper} {Q : Exit → Act → World → Prop} {oi : Oper} {N : Option Tmp} {a : Act} {w : World} {K : Act → World → Prop} {f : FuncId} {fn : Func} {aas : Array Operand} {ts : Array TypeId} {c : Operand} (cap : Array Value) (hf : P.funcs[f]? = some fn) (hname : (fn.name == "runtime.NumGoroutine") = false) (hb : fn.body.isSome = true) (args : Array Value)
    (hw : Region.wanted oi (yielded ops a.tmps) = true) (hN : oi.dst = N) (hop : oi.op = .call { callee := .value c, args := aas, argTypes := ts }) (hc : a.eval c = .func (.func f) #[] cap) (hargs : aas.map a.eval ++ cap = args)
    (h : Calls P f args w fun e w' => (∃ v, e = .returned v ∧ K (a.put N v) w') ∨ ∃ ch, e = .panicked ch ∧ Q (.panic ch) a w') : if Region.wanted oi (yielded ops a.tmps) = true then Oper.wp P oi a w K Q else K (a.put N undef) w := by
  rw [if_pos hw]
  subst hN
  have he := enters_ hf hname hb args w
  have hrun : (execOp a.eval oi).run P w = .ok (.enter f args) w := by
    unfold execOp
    subst hargs
    simp [hop, resolve, Deferred.ofValue, invoke, hc, he]
  unfold Oper.wp
  rw [hrun, Oper.upon_enter]
  refine h.mono fun e w'' hh => ?_
  rcases hh with ⟨v, rfl, hk⟩ | ⟨ch, rfl, hk⟩
  · exact hk
  · exact hk
set_option maxHeartbeats 2000000 in
set_option maxRecDepth 100000 in
theorem read_no_tenant (g f a b : Nat) (A : Option Addr) (n c k : Nat) (w : World)
    (h : RdAt w g A n c) (ha : Blk w a #[.int .i64 k] 3) (hb : Blk w b #[.func (Fn.func 41) #[] #[]] 93) (hk : n < k) :
    Calls Try.prog 63 #[pt g, pt f, pt a, pt b] w fun e w' => e = wrong 121 ∧ Tu [g] w w' := by
  have h1 : w.cell? ⟨a, 0, none⟩ = some (.int .i64 k) := Blk.cell (i := 0) ha rfl
  have h2 : w.cell? ⟨b, 0, none⟩ = some (.func (Fn.func 41) #[] #[]) := Blk.cell (i := 0) hb rfl
  go_enter Try.func63, Try.ntmps63
  go_wp2_with fail
  refine start_ (n := 8) (S := fun w' => w'.cell? ⟨a, 0, none⟩ = some (.int .i64 k) ∧ w'.cell? ⟨b, 0, none⟩ = some (.func (Fn.func 41) #[] #[])) (ds := [5]) #[false, false, false, false, false, false, false, false] (by kernel_rfl) rfl rfl ⟨h1, h2⟩ (fun hHeld => ?_)
  refine take_ (i := 0) (N := some 6) (v := ?_) (a' := ?_) #[true, false, false, false, false, false, false, false] rfl rfl (by kernel_rfl) (fun _ _ _ h => h) (Or.inl ⟨by rfl, ?_⟩) hHeld ?_ ?_
  rotate_left
  · intro w' s0
    go_simp
    with_reducible rfl
  rotate_left
  · simp only [Act.put, List.setIfInBounds_toArray, List.set_cons_zero, List.set_cons_succ, i64_w, i32_w]
    rfl
  refine pure_ (i := 1) (N := some 7) (v := ?_) (a' := ?_) #[true, true, false, false, false, false, false, false] rfl rfl (by kernel_rfl) (fun _ _ _ h => h) (Or.inl ⟨by rfl, ?_⟩) ?_ ?_
  rotate_left
  · intro w'
    go_simp
    with_reducible rfl
  rotate_left
  · simp only [Act.put, List.setIfInBounds_toArray, List.set_cons_zero, List.set_cons_succ, i64_w, i32_w]
    rfl
  refine pure_ (i := 3) (N := some 9) (v := ?_) (a' := ?_) #[true, true, false, true, false, false, false, false] rfl rfl (by kernel_rfl) (fun _ _ _ h => h) (Or.inl ⟨by rfl, ?_⟩) ?_ ?_
  rotate_left
  · intro w'
    go_simp
    with_reducible rfl
  rotate_left
  · simp only [Act.put, List.setIfInBounds_toArray, List.set_cons_zero, List.set_cons_succ, i64_w, i32_w]
    rfl
  refine take_ (i := 4) (N := some 10) (v := ?_) (a' := ?_) #[true, true, false, true, true, false, false, false] rfl rfl (by kernel_rfl) (fun _ _ _ h => h) (Or.inl ⟨by rfl, ?_⟩) hHeld ?_ ?_
  rotate_left
  · intro w' s0
    go_simp
    with_reducible rfl
  rotate_left
  · simp only [Act.put, List.setIfInBounds_toArray, List.set_cons_zero, List.set_cons_succ, i64_w, i32_w]
    rfl
  refine one_ (i := 2) (N := some 8) #[true, true, true, true, true, false, false, false] rfl rfl (by kernel_rfl) (by decide) (fun K hK => ?_)
  refine goesV #[] Try.func41 (by kernel_rfl) rfl #[pt f] (by rfl) rfl rfl rfl (by simp [Act.eval]) ?_
  with_reducible refine (tenantOf_any ..).mono ?_
  rintro e w2 ⟨rfl, rfl⟩
  refine .inl ⟨_, rfl, ?_⟩
  refine hK.out _ _ hHeld (fun hHeld => ?_)
  clear hK K
  refine norm_ (a' := ?_) ?_ ?_
  rotate_left
  · show Act.put _ (some 8) _ = _
    simp only [Act.put, List.setIfInBounds_toArray, List.set_cons_zero, List.set_cons_succ, i64_w, i32_w]
    rfl
  refine last_ (i := 5) (N := some 11) #[true, true, true, true, true, true, false, false] rfl rfl (by kernel_rfl) (by decide) (fun K hK => ?_)
  refine goesV #[] Try.func45 (by kernel_rfl) rfl #[pt g, .int .i64 k] (by rfl) rfl rfl rfl (by simp [Act.eval]) ?_
  refine Calls.mono (rnumber_no g A n c k _ h hk) ?_
  rintro e w2 ⟨rfl, rfl⟩
  exact .inr ⟨_, rfl, rfl, rfl, (Tu.refl _ _).drew⟩
set_option maxHeartbeats 2000000 in
set_option maxRecDepth 100000 in
theorem read_ok_tenant (g f a b : Nat) (A : Option Addr) (n c k : Nat) (w : World) (xs : List Int) (F : Flds) (dv : Value)
    (h : RdAt w g A n c) (hf : FdAt w f F dv) (ha : Blk w a #[.int .i64 k] 3) (hb : Blk w b #[.func (Fn.func 41) #[] #[]] 93)
    (hx : BytesAt w A n xs) (hu : u8s xs) (hg : ∀ a, A = some a → 0 < n → a.block ≠ g) (hk : k ≤ n) (hk4 : k ≤ 4) (hc : n ≤ c) (hgf : f ≠ g) :
    Calls Try.prog 63 #[pt g, pt f, pt a, pt b] w fun e w' =>
      e = .returned (.tuple #[]) ∧ RdAt w' g (adv A c k) (n - k) (c - k) ∧ FdAt w' f { F with tn := be (xs.take k) } dv ∧ Tu [g, f] w w' := by
  have h1 : w.cell? ⟨a, 0, none⟩ = some (.int .i64 k) := Blk.cell (i := 0) ha rfl
  have h2 : w.cell? ⟨b, 0, none⟩ = some (.func (Fn.func 41) #[] #[]) := Blk.cell (i := 0) hb rfl
  have hv1 : (F.cells dv)[1]? = some (.int .i64 F.tn) := rfl
  go_enter Try.func63, Try.ntmps63
  go_wp2_with fail
  refine start_ (n := 8) (S := fun w' => w'.cell? ⟨a, 0, none⟩ = some (.int .i64 k) ∧ w'.cell? ⟨b, 0, none⟩ = some (.func (Fn.func 41) #[] #[])) (ds := [5, 7]) #[false, false, false, false, false, false, false, false] (by kernel_rfl) rfl rfl ⟨h1, h2⟩ (fun hHeld => ?_)
  refine take_ (i := 0) (N := some 6) (v := ?_) (a' := ?_) #[true, false, false, false, false, false, false, false] rfl rfl (by kernel_rfl) (fun _ _ _ h => h) (Or.inl ⟨by rfl, ?_⟩) hHeld ?_ ?_
  rotate_left
  · intro w' s0
    go_simp
    with_reducible rfl
  rotate_left
  · simp only [Act.put, List.setIfInBounds_toArray, List.set_cons_zero, List.set_cons_succ, i64_w, i32_w]
    rfl
  refine pure_ (i := 1) (N := some 7) (v := ?_) (a' := ?_) #[true, true, false, false, false, false, false, false] rfl rfl (by kernel_rfl) (fun _ _ _ h => h) (Or.inl ⟨by rfl, ?_⟩) ?_ ?_
  rotate_left
  · intro w'
    go_simp
    with_reducible rfl
  rotate_left
  · simp only [Act.put, List.setIfInBounds_toArray, List.set_cons_zero, List.set_cons_succ, i64_w, i32_w]
    rfl
  refine pure_ (i := 3) (N := some 9) (v := ?_) (a' := ?_) #[true, true, false, true, false, false, false, false] rfl rfl (by kernel_rfl) (fun _ _ _ h => h) (Or.inl ⟨by rfl, ?_⟩) ?_ ?_
  rotate_left
  · intro w'
    go_simp
    with_reducible rfl
  rotate_left
  · simp only [Act.put, List.setIfInBounds_toArray, List.set_cons_zero, List.set_cons_succ, i64_w, i32_w]
    rfl
  refine take_ (i := 4) (N := some 10) (v := ?_) (a' := ?_) #[true, true, false, true, true, false, false, false] rfl rfl (by kernel_rfl) (fun _ _ _ h => h) (Or.inl ⟨by rfl, ?_⟩) hHeld ?_ ?_
  rotate_left
  · intro w' s0
    go_simp
    with_reducible rfl
  rotate_left
  · simp only [Act.put, List.setIfInBounds_toArray, List.set_cons_zero, List.set_cons_succ, i64_w, i32_w]
    rfl
  refine one_ (i := 2) (N := some 8) #[true, true, true, true, true, false, false, false] rfl rfl (by kernel_rfl) (by decide) (fun K hK => ?_)
  refine goesV #[] Try.func41 (by kernel_rfl) rfl #[pt f] (by rfl) rfl rfl rfl (by simp [Act.eval]) ?_
  with_reducible refine (tenantOf_any ..).mono ?_
  rintro e w2 ⟨rfl, rfl⟩
  refine .inl ⟨_, rfl, ?_⟩
  refine hK.out _ _ hHeld (fun hHeld => ?_)
  clear hK K
  refine norm_ (a' := ?_) ?_ ?_
  rotate_left
  · show Act.put _ (some 8) _ = _
    simp only [Act.put, List.setIfInBounds_toArray, List.set_cons_zero, List.set_cons_succ, i64_w, i32_w]
    rfl
  refine last_ (i := 5) (N := some 11) #[true, true, true, true, true, true, false, false] rfl rfl (by kernel_rfl) (by decide) (fun K hK => ?_)
  refine goesV #[] Try.func45 (by kernel_rfl) rfl #[pt g, .int .i64 k] (by rfl) rfl rfl rfl (by simp [Act.eval]) ?_
  refine Calls.mono (rnumber_ok g A n c k _ xs h hx hu hg hk hk4 hc) ?_
  rintro e w2 ⟨rfl, hw2⟩
  have hb2 : FdAt w2 f F dv := by rw [← hw2]; exact Blk.other hf hgf _
  have hc2 := Blk.cell hb2 hv1
  have hz2 := Blk.frozen (i := 1) hb2
  have hg2 : RdAt w2 g (adv A c k) (n - k) (c - k) := by rw [← hw2]; exact Blk.set (i := 0) h _
  have ht2 : Tu [g] w w2 := by rw [← hw2]; exact ((Tu.refl _ _).drew).setCell (.inl (by simp)) _
  clear hw2
  refine .inl ⟨_, rfl, ?_⟩
  refine hK.out _ _ ?_
  clear hK K
  refine norm_ (a' := ?_) ?_ ?_
  rotate_left
  · show Act.put _ (some 11) _ = _
    simp only [Act.put, List.setIfInBounds_toArray, List.set_cons_zero, List.set_cons_succ, i64_w, i32_w]
    rfl
  refine pure_ (i := 6) (N := some 12) (v := ?_) (a' := ?_) #[true, true, true, true, true, true, true, false] rfl rfl (by kernel_rfl) (fun _ _ _ h => h) (Or.inl ⟨by rfl, ?_⟩) ?_ ?_
  rotate_left
  · intro w'
    go_simp
    with_reducible rfl
  rotate_left
  · simp only [Act.put, List.setIfInBounds_toArray, List.set_cons_zero, List.set_cons_succ, i64_w, i32_w]
    rfl
  refine last_ (i := 7) (N := none) #[true, true, true, true, true, true, true, true] rfl rfl (by kernel_rfl) (by decide) (fun K hK => ?_)
  refine skip_ (w1 := w2.setCell ⟨f, 1, none⟩ (.int .i64 (be (xs.take k)))) (by rfl) rfl (by go_simp) ?_
  refine hK.out _ _ ?_
  clear hK K
  refine done_ (by kernel_rfl) ?_
  go_wp2
  try go_end0
  exact ⟨rfl, Blk.other hg2 (Ne.symm hgf) _, Blk.set (i := 1) hb2 _, (ht2.mono (fun i hi => .inl (by simp at hi ⊢; exact .inl hi))).setCell (.inl (by simp)) _⟩
set_option maxHeartbeats 2000000 in
set_option maxRecDepth 100000 in
theorem fits_tenant (f b l r : Nat) (lo hi : Int) (w : World) (F : Flds) (dv : Value)
    (hf : FdAt w f F dv) (hl : Blk w l #[.int .i64 lo] 3) (hr : Blk w r #[.int .i64 hi] 3) (hb : Blk w b #[.func (Fn.func 41) #[] #[]] 93) :
    Calls Try.prog 64 #[pt f, pt b, pt l, pt r] w fun e w' =>
      e = .returned (.bool (decide (lo ≤ F.tn) && decide (F.tn ≤ hi))) ∧ ∃ nq, w' = w.drewN nq := by
  have h1 : w.cell? ⟨l, 0, none⟩ = some (.int .i64 lo) := Blk.cell (i := 0) hl rfl
  have h3 : w.cell? ⟨r, 0, none⟩ = some (.int .i64 hi) := Blk.cell (i := 0) hr rfl
  have h2 : w.cell? ⟨b, 0, none⟩ = some (.func (Fn.func 41) #[] #[]) := Blk.cell (i := 0) hb rfl
  have hv1 : w.cell? ⟨f, 1, none⟩ = some (.int .i64 F.tn) := Blk.cell (i := 1) hf rfl
  by_cases q1 : lo ≤ F.tn
  · have d1 : decide (F.tn ≥ lo) = true := decide_eq_true q1
    rw [decide_eq_true q1, Bool.true_and]
    go_enter Try.func64, Try.ntmps64
    go_wp2_with fail
    go_quiet ((go_at_call 41; exact Calls.quiet_of_same (Calls.mono (tenantOf_any _ _) (fun _ _ h => ⟨h.1, h.2.symm⟩))))
    go_wp2
    go_ret
    exact ⟨rfl, _, rfl⟩
  · have d1 : decide (F.tn ≥ lo) = false := decide_eq_false q1
    rw [decide_eq_false q1, Bool.false_and]
    go_enter Try.func64, Try.ntmps64
    go_wp2_with fail
    go_quiet ((go_at_call 41; exact Calls.quiet_of_same (Calls.mono (tenantOf_any _ _) (fun _ _ h => ⟨h.1, h.2.symm⟩))))
    go_wp2
    go_ret
    exact ⟨rfl, _, rfl⟩
set_option maxHeartbeats 2000000 in
set_option maxRecDepth 100000 in
theorem write_tenant (base : Nat) (S : List Nat) (f a b k : Nat) (v : Value) (xs : List Int) (w : World) (F : Flds) (dv : Value)
    (hf : FdAt w f F dv) (ha : Blk w a #[.int .i64 k] 3) (hb : Blk w b #[.func (Fn.func 41) #[] #[]] 93)
    (hR : Own w base (okS S w) v xs) (hbs : base ≤ w.heap.size) (h0 : 0 ≤ F.tn) (hk1 : 1 ≤ k) (hk : k ≤ 4) (hl : xs.length ≤ 140737488350000) :
    Calls Try.prog 65 #[v, pt f, pt b, pt a] w fun e w' => ∃ v', e = .returned v' ∧ Own w' base (okS S w) v' (xs ++ beB F.tn k) ∧ Tu S w w' ∧ Below base w w' := by
  have h1 : w.cell? ⟨a, 0, none⟩ = some (.int .i64 k) := Blk.cell (i := 0) ha rfl
  have h2 : w.cell? ⟨b, 0, none⟩ = some (.func (Fn.func 41) #[] #[]) := Blk.cell (i := 0) hb rfl
  have hv1 : w.cell? ⟨f, 1, none⟩ = some (.int .i64 F.tn) := Blk.cell (i := 1) hf rfl
  go_enter Try.func65, Try.ntmps65
  go_wp2_with fail
  refine start_ (n := 9) (S := fun w' => w'.cell? ⟨a, 0, none⟩ = some (.int .i64 k) ∧ w'.cell? ⟨b, 0, none⟩ = some (.func (Fn.func 41) #[] #[]) ∧ w'.cell? ⟨f, 1, none⟩ = some (.int .i64 F.tn)) (ds := [7]) #[false, false, false, false, false, false, false, false, false] (by kernel_rfl) rfl rfl ⟨h1, h2, hv1⟩ (fun hHeld => ?_)
  refine pure_ (i := 0) (N := some 7) (v := ?_) (a' := ?_) #[true, false, false, false, false, false, false, false, false] rfl rfl (by kernel_rfl) (fun _ _ _ h => h) (Or.inl ⟨by rfl, ?_⟩) ?_ ?_
  rotate_left
  · intro w'
    go_simp
    with_reducible rfl
  rotate_left
  · simp only [Act.put, List.setIfInBounds_toArray, List.set_cons_zero, List.set_cons_succ, i64_w, i32_w]
    rfl
  refine take_ (i := 1) (N := some 8) (v := ?_) (a' := ?_) #[true, true, false, false, false, false, false, false, false] rfl rfl (by kernel_rfl) (fun _ _ _ h => h) (Or.inl ⟨by rfl, ?_⟩) hHeld ?_ ?_
  rotate_left
  · intro w' s0
    go_simp
    with_reducible rfl
  rotate_left
  · simp only [Act.put, List.setIfInBounds_toArray, List.set_cons_zero, List.set_cons_succ, i64_w, i32_w]
    rfl
  refine pure_ (i := 2) (N := some 9) (v := ?_) (a' := ?_) #[true, true, true, false, false, false, false, false, false] rfl rfl (by kernel_rfl) (fun _ _ _ h => h) (Or.inl ⟨by rfl, ?_⟩) ?_ ?_
  rotate_left
  · intro w'
    go_simp
    with_reducible rfl
  rotate_left
  · simp only [Act.put, List.setIfInBounds_toArray, List.set_cons_zero, List.set_cons_succ, i64_w, i32_w]
    rfl
  refine take_ (i := 6) (N := some 13) (v := ?_) (a' := ?_) #[true, true, true, false, false, false, true, false, false] rfl rfl (by kernel_rfl) (fun _ _ _ h => h) (Or.inl ⟨by rfl, ?_⟩) hHeld ?_ ?_
  rotate_left
  · intro w' s0
    go_simp
    with_reducible rfl
  rotate_left
  · simp only [Act.put, List.setIfInBounds_toArray, List.set_cons_zero, List.set_cons_succ, i64_w, i32_w]
    rfl
  refine one_ (i := 3) (N := some 10) #[true, true, true, true, false, false, true, false, false] rfl rfl (by kernel_rfl) (by decide) (fun K hK => ?_)
  refine goesV #[] Try.func41 (by kernel_rfl) rfl #[pt f] (by rfl) rfl rfl rfl (by simp [Act.eval]) ?_
  with_reducible refine (tenantOf_any ..).mono ?_
  rintro e w2 ⟨rfl, rfl⟩
  refine .inl ⟨_, rfl, ?_⟩
  refine hK.out _ _ hHeld (fun hHeld => ?_)
  clear hK K
  refine norm_ (a' := ?_) ?_ ?_
  rotate_left
  · show Act.put _ (some 10) _ = _
    simp only [Act.put, List.setIfInBounds_toArray, List.set_cons_zero, List.set_cons_succ, i64_w, i32_w]
    rfl
  refine pure_ (i := 4) (N := some 11) (v := ?_) (a' := ?_) #[true, true, true, true, true, false, true, false, false] rfl rfl (by kernel_rfl) (fun _ _ _ h => h) (Or.inl ⟨by rfl, ?_⟩) ?_ ?_
  rotate_left
  · intro w'
    go_simp
    with_reducible rfl
  rotate_left
  · simp only [Act.put, List.setIfInBounds_toArray, List.set_cons_zero, List.set_cons_succ, i64_w, i32_w]
    rfl
  refine take_ (i := 5) (N := some 12) (v := ?_) (a' := ?_) #[true, true, true, true, true, true, true, false, false] rfl rfl (by kernel_rfl) (fun _ _ _ h => h) (Or.inl ⟨by rfl, ?_⟩) hHeld ?_ ?_
  rotate_left
  · intro w' s0
    go_simp
    with_reducible rfl
  rotate_left
  · simp only [Act.put, List.setIfInBounds_toArray, List.set_cons_zero, List.set_cons_succ, i64_w, i32_w]
    rfl
  refine last_ (i := 7) (N := some 14) #[true, true, true, true, true, true, true, true, false] rfl rfl (by kernel_rfl) (by decide) (fun K hK => ?_)
  refine goesV #[] Try.func48 (by kernel_rfl) rfl #[v, .int .i64 F.tn, .int .i64 k] (by rfl) rfl rfl rfl (by simp [Act.eval]) ?_
  refine Calls.mono (put_ok base S v xs _ k _ (Kd.R_step hR (fun _ _ _ => rfl)) hbs h0 hk1 hk hl) ?_
  rintro e w2 ⟨v', rfl, ho, ht, hb2⟩
  refine .inl ⟨_, rfl, ?_⟩
  refine hK.out _ _ ?_
  clear hK K
  refine norm_ (a' := ?_) ?_ ?_
  rotate_left
  · show Act.put _ (some 14) _ = _
    simp only [Act.put, List.setIfInBounds_toArray, List.set_cons_zero, List.set_cons_succ, i64_w, i32_w]
    rfl
  refine pure_ (i := 8) (N := some 6) (v := ?_) (a' := ?_) #[true, true, true, true, true, true, true, true, true] rfl rfl (by kernel_rfl) (fun _ _ _ h => h) (Or.inl ⟨by rfl, ?_⟩) ?_ ?_
  rotate_left
  · intro w'
    go_simp
    with_reducible rfl
  rotate_left
  · simp only [Act.put, List.setIfInBounds_toArray, List.set_cons_zero, List.set_cons_succ, i64_w, i32_w]
    rfl
  refine done_ (by kernel_rfl) ?_
  go_wp2
  go_ret
  exact ⟨_, rfl, ho, ((Tu.refl _ _).drew).trans ht, ((Below.refl _ _).drew).trans hb2⟩
theorem clear_tenant (f b : Nat) (w : World) (F : Flds) (dv : Value) (hf : FdAt w f F dv) (hb : Blk w b #[.func (Fn.func 41) #[] #[]] 93) :
    Calls Try.prog 66 #[pt f, pt b] w fun e w' => e = .returned (.tuple #[]) ∧ FdAt w' f { F with tn := 0 } dv ∧ Tu [f] w w' := by
  have h2 : w.cell? ⟨b, 0, none⟩ = some (.func (Fn.func 41) #[] #[]) := Blk.cell (i := 0) hb rfl
  have hv1 : w.cell? ⟨f, 1, none⟩ = some (.int .i64 F.tn) := Blk.cell (i := 1) hf rfl
  have hz2 := Blk.frozen (i := 1) hf
  go_enter Try.func66, Try.ntmps66
  go_wp2_with (with_reducible refine (tenantOf_any ..).mono ?_; rintro e w2 ⟨rfl, rfl⟩)
  go_end0
  exact ⟨rfl, Blk.set (i := 1) hf _, (Tu.refl _ _).setCell (.inl (by simp)) _⟩
set_option maxHeartbeats 2000000 in
set_option maxRecDepth 100000 in
theorem read_no_n (g f a b : Nat) (A : Option Addr) (n c k : Nat) (w : World)
    (h : RdAt w g A n c) (ha : Blk w a #[.int .i64 k] 3) (hb : Blk w b #[.func (Fn.func 44) #[] #[]] 93) (hk : n < k) :
    Calls Try.prog 63 #[pt g, pt f, pt a, pt b] w fun e w' => e = wrong 121 ∧ Tu [g] w w' := by
  have h1 : w.cell? ⟨a, 0, none⟩ = some (.int .i64 k) := Blk.cell (i := 0) ha rfl
  have h2 : w.cell? ⟨b, 0, none⟩ = some (.func (Fn.func 44) #[] #[]) := Blk.cell (i := 0) hb rfl
  go_enter Try.func63, Try.ntmps63
  go_wp2_with fail
  refine start_ (n := 8) (S := fun w' => w'.cell? ⟨a, 0, none⟩ = some (.int .i64 k) ∧ w'.cell? ⟨b, 0, none⟩ = some (.func (Fn.func 44) #[] #[])) (ds := [5]) #[false, false, false, false, false, false, false, false] (by kernel_rfl) rfl rfl ⟨h1, h2⟩ (fun hHeld => ?_)
  refine take_ (i := 0) (N := some 6) (v := ?_) (a' := ?_) #[true, false, false, false, false, false, false, false] rfl rfl (by kernel_rfl) (fun _ _ _ h => h) (Or.inl ⟨by rfl, ?_⟩) hHeld ?_ ?_
  rotate_left
  · intro w' s0
    go_simp
    with_reducible rfl
  rotate_left
  · simp only [Act.put, List.setIfInBounds_toArray, List.set_cons_zero, List.set_cons_succ, i64_w, i32_w]
    rfl
  refine pure_ (i := 1) (N := some 7) (v := ?_) (a' := ?_) #[true, true, false, false, false, false, false, false] rfl rfl (by kernel_rfl) (fun _ _ _ h => h) (Or.inl ⟨by rfl, ?_⟩) ?_ ?_
  rotate_left
  · intro w'
    go_simp
    with_reducible rfl
  rotate_left
  · simp only [Act.put, List.setIfInBounds_toArray, List.set_cons_zero, List.set_cons_succ, i64_w, i32_w]
    rfl
  refine pure_ (i := 3) (N := some 9) (v := ?_) (a' := ?_) #[true, true, false, true, false, false, false, false] rfl rfl (by kernel_rfl) (fun _ _ _ h => h) (Or.inl ⟨by rfl, ?_⟩) ?_ ?_
  rotate_left
  · intro w'
    go_simp
    with_reducible rfl
  rotate_left
  · simp only [Act.put, List.setIfInBounds_toArray, List.set_cons_zero, List.set_cons_succ, i64_w, i32_w]
    rfl
  refine take_ (i := 4) (N := some 10) (v := ?_) (a' := ?_) #[true, true, false, true, true, false, false, false] rfl rfl (by kernel_rfl) (fun _ _ _ h => h) (Or.inl ⟨by rfl, ?_⟩) hHeld ?_ ?_
  rotate_left
  · intro w' s0
    go_simp
    with_reducible rfl
  rotate_left
  · simp only [Act.put, List.setIfInBounds_toArray, List.set_cons_zero, List.set_cons_succ, i64_w, i32_w]
    rfl
  refine one_ (i := 2) (N := some 8) #[true, true, true, true, true, false, false, false] rfl rfl (by kernel_rfl) (by decide) (fun K hK => ?_)
  refine goesV #[] Try.func44 (by kernel_rfl) rfl #[pt f] (by rfl) rfl rfl rfl (by simp [Act.eval]) ?_
  with_reducible refine (nOf_any ..).mono ?_
  rintro e w2 ⟨rfl, rfl⟩
  refine .inl ⟨_, rfl, ?_⟩
  refine hK.out _ _ hHeld (fun hHeld => ?_)
  clear hK K
  refine norm_ (a' := ?_) ?_ ?_
  rotate_left
  · show Act.put _ (some 8) _ = _
    simp only [Act.put, List.setIfInBounds_toArray, List.set_cons_zero, List.set_cons_succ, i64_w, i32_w]
    rfl
  refine last_ (i := 5) (N := some 11) #[true, true, true, true, true, true, false, false] rfl rfl (by kernel_rfl) (by decide) (fun K hK => ?_)
  refine goesV #[] Try.func45 (by kernel_rfl) rfl #[pt g, .int .i64 k] (by rfl) rfl rfl rfl (by simp [Act.eval]) ?_
  refine Calls.mono (rnumber_no g A n c k _ h hk) ?_
  rintro e w2 ⟨rfl, rfl⟩
  exact .inr ⟨_, rfl, rfl, rfl, (Tu.refl _ _).drew⟩
set_option maxHeartbeats 2000000 in
set_option maxRecDepth 100000 in
theorem read_ok_n (g f a b : Nat) (A : Option Addr) (n c k : Nat) (w : World) (xs : List Int) (F : Flds) (dv : Value)
    (h : RdAt w g A n c) (hf : FdAt w f F dv) (ha : Blk w a #[.int .i64 k] 3) (hb : Blk w b #[.func (Fn.func 44) #[] #[]] 93)
    (hx : BytesAt w A n xs) (hu : u8s xs) (hg : ∀ a, A = some a → 0 < n → a.block ≠ g) (hk : k ≤ n) (hk4 : k ≤ 4) (hc : n ≤ c) (hgf : f ≠ g) :
    Calls Try.prog 63 #[pt g, pt f, pt a, pt b] w fun e w' =>
      e = .returned (.tuple #[]) ∧ RdAt w' g (adv A c k) (n - k) (c - k) ∧ FdAt w' f { F with n := be (xs.take k) } dv ∧ Tu [g, f] w w' := by
  have h1 : w.cell? ⟨a, 0, none⟩ = some (.int .i64 k) := Blk.cell (i := 0) ha rfl
  have h2 : w.cell? ⟨b, 0, none⟩ = some (.func (Fn.func 44) #[] #[]) := Blk.cell (i := 0) hb rfl
  have hv1 : (F.cells dv)[2]? = some (.int .i64 F.n) := rfl
  go_enter Try.func63, Try.ntmps63
  go_wp2_with fail
  refine start_ (n := 8) (S := fun w' => w'.cell? ⟨a, 0, none⟩ = some (.int .i64 k) ∧ w'.cell? ⟨b, 0, none⟩ = some (.func (Fn.func 44) #[] #[])) (ds := [5, 7]) #[false, false, false, false, false, false, false, false] (by kernel_rfl) rfl rfl ⟨h1, h2⟩ (fun hHeld => ?_)
  refine take_ (i := 0) (N := some 6) (v := ?_) (a' := ?_) #[true, false, false, false, false, false, false, false] rfl rfl (by kernel_rfl) (fun _ _ _ h => h) (Or.inl ⟨by rfl, ?_⟩) hHeld ?_ ?_
  rotate_left
  · intro w' s0
    go_simp
    with_reducible rfl
  rotate_left
  · simp only [Act.put, List.setIfInBounds_toArray, List.set_cons_zero, List.set_cons_succ, i64_w, i32_w]
    rfl
  refine pure_ (i := 1) (N := some 7) (v := ?_) (a' := ?_) #[true, true, false, false, false, false, false, false] rfl rfl (by kernel_rfl) (fun _ _ _ h => h) (Or.inl ⟨by rfl, ?_⟩) ?_ ?_
  rotate_left
  · intro w'
    go_simp
    with_reducible rfl
  rotate_left
  · simp only [Act.put, List.setIfInBounds_toArray, List.set_cons_zero, List.set_cons_succ, i64_w, i32_w]
    rfl
  refine pure_ (i := 3) (N := some 9) (v := ?_) (a' := ?_) #[true, true, false, true, false, false, false, false] rfl rfl (by kernel_rfl) (fun _ _ _ h => h) (Or.inl ⟨by rfl, ?_⟩) ?_ ?_
  rotate_left
  · intro w'
    go_simp
    with_reducible rfl
  rotate_left
  · simp only [Act.put, List.setIfInBounds_toArray, List.set_cons_zero, List.set_cons_succ, i64_w, i32_w]
    rfl
  refine take_ (i := 4) (N := some 10) (v := ?_) (a' := ?_) #[true, true, false, true, true, false, false, false] rfl rfl (by kernel_rfl) (fun _ _ _ h => h) (Or.inl ⟨by rfl, ?_⟩) hHeld ?_ ?_
  rotate_left
  · intro w' s0
    go_simp
    with_reducible rfl
  rotate_left
  · simp only [Act.put, List.setIfInBounds_toArray, List.set_cons_zero, List.set_cons_succ, i64_w, i32_w]
    rfl
  refine one_ (i := 2) (N := some 8) #[true, true, true, true, true, false, false, false] rfl rfl (by kernel_rfl) (by decide) (fun K hK => ?_)
  refine goesV #[] Try.func44 (by kernel_rfl) rfl #[pt f] (by rfl) rfl rfl rfl (by simp [Act.eval]) ?_
  with_reducible refine (nOf_any ..).mono ?_
  rintro e w2 ⟨rfl, rfl⟩
  refine .inl ⟨_, rfl, ?_⟩
  refine hK.out _ _ hHeld (fun hHeld => ?_)
  clear hK K
  refine norm_ (a' := ?_) ?_ ?_
  rotate_left
  · show Act.put _ (some 8) _ = _
    simp only [Act.put, List.setIfInBounds_toArray, List.set_cons_zero, List.set_cons_succ, i64_w, i32_w]
    rfl
  refine last_ (i := 5) (N := some 11) #[true, true, true, true, true, true, false, false] rfl rfl (by kernel_rfl) (by decide) (fun K hK => ?_)
  refine goesV #[] Try.func45 (by kernel_rfl) rfl #[pt g, .int .i64 k] (by rfl) rfl rfl rfl (by simp [Act.eval]) ?_
  refine Calls.mono (rnumber_ok g A n c k _ xs h hx hu hg hk hk4 hc) ?_
  rintro e w2 ⟨rfl, hw2⟩
  have hb2 : FdAt w2 f F dv := by rw [← hw2]; exact Blk.other hf hgf _
  have hc2 := Blk.cell hb2 hv1
  have hz2 := Blk.frozen (i := 2) hb2
  have hg2 : RdAt w2 g (adv A c k) (n - k) (c - k) := by rw [← hw2]; exact Blk.set (i := 0) h _
  have ht2 : Tu [g] w w2 := by rw [← hw2]; exact ((Tu.refl _ _).drew).setCell (.inl (by simp)) _
  clear hw2
  refine .inl ⟨_, rfl, ?_⟩
  refine hK.out _ _ ?_
  clear hK K
  refine norm_ (a' := ?_) ?_ ?_
  rotate_left
  · show Act.put _ (some 11) _ = _
    simp only [Act.put, List.setIfInBounds_toArray, List.set_cons_zero, List.set_cons_succ, i64_w, i32_w]
    rfl
  refine pure_ (i := 6) (N := some 12) (v := ?_) (a' := ?_) #[true, true, true, true, true, true, true, false] rfl rfl (by kernel_rfl) (fun _ _ _ h => h) (Or.inl ⟨by rfl, ?_⟩) ?_ ?_
  rotate_left
  · intro w'
    go_simp
    with_reducible rfl
  rotate_left
  · simp only [Act.put, List.setIfInBounds_toArray, List.set_cons_zero, List.set_cons_succ, i64_w, i32_w]
    rfl
  refine last_ (i := 7) (N := none) #[true, true, true, true, true, true, true, true] rfl rfl (by kernel_rfl) (by decide) (fun K hK => ?_)
  refine skip_ (w1 := w2.setCell ⟨f, 2, none⟩ (.int .i64 (be (xs.take k)))) (by rfl) rfl (by go_simp) ?_
  refine hK.out _ _ ?_
  clear hK K
  refine done_ (by kernel_rfl) ?_
  go_wp2
  try go_end0
  exact ⟨rfl, Blk.other hg2 (Ne.symm hgf) _, Blk.set (i := 2) hb2 _, (ht2.mono (fun i hi => .inl (by simp at hi ⊢; exact .inl hi))).setCell (.inl (by simp)) _⟩
set_option maxHeartbeats 2000000 in
set_option maxRecDepth 100000 in
theorem fits_n (f b l r : Nat) (lo hi : Int) (w : World) (F : Flds) (dv : Value)
    (hf : FdAt w f F dv) (hl : Blk w l #[.int .i64 lo] 3) (hr : Blk w r #[.int .i64 hi] 3) (hb : Blk w b #[.func (Fn.func 44) #[] #[]] 93) :
    Calls Try.prog 64 #[pt f, pt b, pt l, pt r] w fun e w' =>
      e = .returned (.bool (decide (lo ≤ F.n) && decide (F.n ≤ hi))) ∧ ∃ nq, w' = w.drewN nq := by
  have h1 : w.cell? ⟨l, 0, none⟩ = some (.int .i64 lo) := Blk.cell (i := 0) hl rfl
  have h3 : w.cell? ⟨r, 0, none⟩ = some (.int .i64 hi) := Blk.cell (i := 0) hr rfl
  have h2 : w.cell? ⟨b, 0, none⟩ = some (.func (Fn.func 44) #[] #[]) := Blk.cell (i := 0) hb rfl
  have hv1 : w.cell? ⟨f, 2, none⟩ = some (.int .i64 F.n) := Blk.cell (i := 2) hf rfl
  by_cases q1 : lo ≤ F.n
  · have d1 : decide (F.n ≥ lo) = true := decide_eq_true q1
    rw [decide_eq_true q1, Bool.true_and]
    go_enter Try.func64, Try.ntmps64
    go_wp2_with fail
    go_quiet ((go_at_call 44; exact Calls.quiet_of_same (Calls.mono (nOf_any _ _) (fun _ _ h => ⟨h.1, h.2.symm⟩))))
    go_wp2
    go_ret
    exact ⟨rfl, _, rfl⟩
  · have d1 : decide (F.n ≥ lo) = false := decide_eq_false q1
    rw [decide_eq_false q1, Bool.false_and]
    go_enter Try.func64, Try.ntmps64
    go_wp2_with fail
    go_quiet ((go_at_call 44; exact Calls.quiet_of_same (Calls.mono (nOf_any _ _) (fun _ _ h => ⟨h.1, h.2.symm⟩))))
    go_wp2
    go_ret
    exact ⟨rfl, _, rfl⟩
set_option maxHeartbeats 2000000 in
set_option maxRecDepth 100000 in
theorem write_n (base : Nat) (S : List Nat) (f a b k : Nat) (v : Value) (xs : List Int) (w : World) (F : Flds) (dv : Value)
    (hf : FdAt w f F dv) (ha : Blk w a #[.int .i64 k] 3) (hb : Blk w b #[.func (Fn.func 44) #[] #[]] 93)
    (hR : Own w base (okS S w) v xs) (hbs : base ≤ w.heap.size) (h0 : 0 ≤ F.n) (hk1 : 1 ≤ k) (hk : k ≤ 4) (hl : xs.length ≤ 140737488350000) :
    Calls Try.prog 65 #[v, pt f, pt b, pt a] w fun e w' => ∃ v', e = .returned v' ∧ Own w' base (okS S w) v' (xs ++ beB F.n k) ∧ Tu S w w' ∧ Below base w w' := by
  have h1 : w.cell? ⟨a, 0, none⟩ = some (.int .i64 k) := Blk.cell (i := 0) ha rfl
  have h2 : w.cell? ⟨b, 0, none⟩ = some (.func (Fn.func 44) #[] #[]) := Blk.cell (i := 0) hb rfl
  have hv1 : w.cell? ⟨f, 2, none⟩ = some (.int .i64 F.n) := Blk.cell (i := 2) hf rfl
  go_enter Try.func65, Try.ntmps65
  go_wp2_with fail
  refine start_ (n := 9) (S := fun w' => w'.cell? ⟨a, 0, none⟩ = some (.int .i64 k) ∧ w'.cell? ⟨b, 0, none⟩ = some (.func (Fn.func 44) #[] #[]) ∧ w'.cell? ⟨f, 2, none⟩ = some (.int .i64 F.n)) (ds := [7]) #[false, false, false, false, false, false, false, false, false] (by kernel_rfl) rfl rfl ⟨h1, h2, hv1⟩ (fun hHeld => ?_)
  refine pure_ (i := 0) (N := some 7) (v := ?_) (a' := ?_) #[true, false, false, false, false, false, false, false, false] rfl rfl (by kernel_rfl) (fun _ _ _ h => h) (Or.inl ⟨by rfl, ?_⟩) ?_ ?_
  rotate_left
  · intro w'
    go_simp
    with_reducible rfl
  rotate_left
  · simp only [Act.put, List.setIfInBounds_toArray, List.set_cons_zero, List.set_cons_succ, i64_w, i32_w]
    rfl
  refine take_ (i := 1) (N := some 8) (v := ?_) (a' := ?_) #[true, true, false, false, false, false, false, false, false] rfl rfl (by kernel_rfl) (fun _ _ _ h => h) (Or.inl ⟨by rfl, ?_⟩) hHeld ?_ ?_
  rotate_left
  · intro w' s0
    go_simp
    with_reducible rfl
  rotate_left
  · simp only [Act.put, List.setIfInBounds_toArray, List.set_cons_zero, List.set_cons_succ, i64_w, i32_w]
    rfl
  refine pure_ (i := 2) (N := some 9) (v := ?_) (a' := ?_) #[true, true, true, false, false, false, false, false, false] rfl rfl (by kernel_rfl) (fun _ _ _ h => h) (Or.inl ⟨by rfl, ?_⟩) ?_ ?_
  rotate_left
  · intro w'
    go_simp
    with_reducible rfl
  rotate_left
  · simp only [Act.put, List.setIfInBounds_toArray, List.set_cons_zero, List.set_cons_succ, i64_w, i32_w]
    rfl
  refine take_ (i := 6) (N := some 13) (v := ?_) (a' := ?_) #[true, true, true, false, false, false, true, false, false] rfl rfl (by kernel_rfl) (fun _ _ _ h => h) (Or.inl ⟨by rfl, ?_⟩) hHeld ?_ ?_
  rotate_left
  · intro w' s0
    go_simp
    with_reducible rfl
  rotate_left
  · simp only [Act.put, List.setIfInBounds_toArray, List.set_cons_zero, List.set_cons_succ, i64_w, i32_w]
    rfl
  refine one_ (i := 3) (N := some 10) #[true, true, true, true, false, false, true, false, false] rfl rfl (by kernel_rfl) (by decide) (fun K hK => ?_)
  refine goesV #[] Try.func44 (by kernel_rfl) rfl #[pt f] (by rfl) rfl rfl rfl (by simp [Act.eval]) ?_
  with_reducible refine (nOf_any ..).mono ?_
  rintro e w2 ⟨rfl, rfl⟩
  refine .inl ⟨_, rfl, ?_⟩
  refine hK.out _ _ hHeld (fun hHeld => ?_)
  clear hK K
  refine norm_ (a' := ?_) ?_ ?_
  rotate_left
  · show Act.put _ (some 10) _ = _
    simp only [Act.put, List.setIfInBounds_toArray, List.set_cons_zero, List.set_cons_succ, i64_w, i32_w]
    rfl
  refine pure_ (i := 4) (N := some 11) (v := ?_) (a' := ?_) #[true, true, true, true, true, false, true, false, false] rfl rfl (by kernel_rfl) (fun _ _ _ h => h) (Or.inl ⟨by rfl, ?_⟩) ?_ ?_
  rotate_left
  · intro w'
    go_simp
    with_reducible rfl
  rotate_left
  · simp only [Act.put, List.setIfInBounds_toArray, List.set_cons_zero, List.set_cons_succ, i64_w, i32_w]
    rfl
  refine take_ (i := 5) (N := some 12) (v := ?_) (a' := ?_) #[true, true, true, true, true, true, true, false, false] rfl rfl (by kernel_rfl) (fun _ _ _ h => h) (Or.inl ⟨by rfl, ?_⟩) hHeld ?_ ?_
  rotate_left
  · intro w' s0
    go_simp
    with_reducible rfl
  rotate_left
  · simp only [Act.put, List.setIfInBounds_toArray, List.set_cons_zero, List.set_cons_succ, i64_w, i32_w]
    rfl
  refine last_ (i := 7) (N := some 14) #[true, true, true, true, true, true, true, true, false] rfl rfl (by kernel_rfl) (by decide) (fun K hK => ?_)
  refine goesV #[] Try.func48 (by kernel_rfl) rfl #[v, .int .i64 F.n, .int .i64 k] (by rfl) rfl rfl rfl (by simp [Act.eval]) ?_
  refine Calls.mono (put_ok base S v xs _ k _ (Kd.R_step hR (fun _ _ _ => rfl)) hbs h0 hk1 hk hl) ?_
  rintro e w2 ⟨v', rfl, ho, ht, hb2⟩
  refine .inl ⟨_, rfl, ?_⟩
  refine hK.out _ _ ?_
  clear hK K
  refine norm_ (a' := ?_) ?_ ?_
  rotate_left
  · show Act.put _ (some 14) _ = _
    simp only [Act.put, List.setIfInBounds_toArray, List.set_cons_zero, List.set_cons_succ, i64_w, i32_w]
    rfl
  refine pure_ (i := 8) (N := some 6) (v := ?_) (a' := ?_) #[true, true, true, true, true, true, true, true, true] rfl rfl (by kernel_rfl) (fun _ _ _ h => h) (Or.inl ⟨by rfl, ?_⟩) ?_ ?_
  rotate_left
  · intro w'
    go_simp
    with_reducible rfl
  rotate_left
  · simp only [Act.put, List.setIfInBounds_toArray, List.set_cons_zero, List.set_cons_succ, i64_w, i32_w]
    rfl
  refine done_ (by kernel_rfl) ?_
  go_wp2
  go_ret
  exact ⟨_, rfl, ho, ((Tu.refl _ _).drew).trans ht, ((Below.refl _ _).drew).trans hb2⟩
theorem clear_n (f b : Nat) (w : World) (F : Flds) (dv : Value) (hf : FdAt w f F dv) (hb : Blk w b #[.func (Fn.func 44) #[] #[]] 93) :
    Calls Try.prog 66 #[pt f, pt b] w fun e w' => e = .returned (.tuple #[]) ∧ FdAt w' f { F with n := 0 } dv ∧ Tu [f] w w' := by
  have h2 : w.cell? ⟨b, 0, none⟩ = some (.func (Fn.func 44) #[] #[]) := Blk.cell (i := 0) hb rfl
  have hv1 : w.cell? ⟨f, 2, none⟩ = some (.int .i64 F.n) := Blk.cell (i := 2) hf rfl
  have hz2 := Blk.frozen (i := 2) hf
  go_enter Try.func66, Try.ntmps66
  go_wp2_with (with_reducible refine (nOf_any ..).mono ?_; rintro e w2 ⟨rfl, rfl⟩)
  go_end0
  exact ⟨rfl, Blk.set (i := 2) hf _, (Tu.refl _ _).setCell (.inl (by simp)) _⟩
set_option maxHeartbeats 2000000 in
set_option maxRecDepth 100000 in
theorem read_no_m (g f a b : Nat) (A : Option Addr) (n c k : Nat) (w : World)
    (h : RdAt w g A n c) (ha : Blk w a #[.int .i64 k] 3) (hb : Blk w b #[.func (Fn.func 49) #[] #[]] 93) (hk : n < k) :
    Calls Try.prog 63 #[pt g, pt f, pt a, pt b] w fun e w' => e = wrong 121 ∧ Tu [g] w w' := by
  have h1 : w.cell? ⟨a, 0, none⟩ = some (.int .i64 k) := Blk.cell (i := 0) ha rfl
  have h2 : w.cell? ⟨b, 0, none⟩ = some (.func (Fn.func 49) #[] #[]) := Blk.cell (i := 0) hb rfl
  go_enter Try.func63, Try.ntmps63
  go_wp2_with fail
  refine start_ (n := 8) (S := fun w' => w'.cell? ⟨a, 0, none⟩ = some (.int .i64 k) ∧ w'.cell? ⟨b, 0, none⟩ = some (.func (Fn.func 49) #[] #[])) (ds := [5]) #[false, false, false, false, false, false, false, false] (by kernel_rfl) rfl rfl ⟨h1, h2⟩ (fun hHeld => ?_)
  refine take_ (i := 0) (N := some 6) (v := ?_) (a' := ?_) #[true, false, false, false, false, false, false, false] rfl rfl (by kernel_rfl) (fun _ _ _ h => h) (Or.inl ⟨by rfl, ?_⟩) hHeld ?_ ?_
  rotate_left
  · intro w' s0
    go_simp
    with_reducible rfl
  rotate_left
  · simp only [Act.put, List.setIfInBounds_toArray, List.set_cons_zero, List.set_cons_succ, i64_w, i32_w]
    rfl
  refine pure_ (i := 1) (N := some 7) (v := ?_) (a' := ?_) #[true, true, false, false, false, false, false, false] rfl rfl (by kernel_rfl) (fun _ _ _ h => h) (Or.inl ⟨by rfl, ?_⟩) ?_ ?_
  rotate_left
  · intro w'
    go_simp
    with_reducible rfl
  rotate_left
  · simp only [Act.put, List.setIfInBounds_toArray, List.set_cons_zero, List.set_cons_succ, i64_w, i32_w]
    rfl
  refine pure_ (i := 3) (N := some 9) (v := ?_) (a' := ?_) #[true, true, false, true, false, false, false, false] rfl rfl (by kernel_rfl) (fun _ _ _ h => h) (Or.inl ⟨by rfl, ?_⟩) ?_ ?_
  rotate_left
  · intro w'
    go_simp
    with_reducible rfl
  rotate_left
  · simp only [Act.put, List.setIfInBounds_toArray, List.set_cons_zero, List.set_cons_succ, i64_w, i32_w]
    rfl
  refine take_ (i := 4) (N := some 10) (v := ?_) (a' := ?_) #[true, true, false, true, true, false, false, false] rfl rfl (by kernel_rfl) (fun _ _ _ h => h) (Or.inl ⟨by rfl, ?_⟩) hHeld ?_ ?_
  rotate_left
  · intro w' s0
    go_simp
    with_reducible rfl
  rotate_left
  · simp only [Act.put, List.setIfInBounds_toArray, List.set_cons_zero, List.set_cons_succ, i64_w, i32_w]
    rfl
  refine one_ (i := 2) (N := some 8) #[true, true, true, true, true, false, false, false] rfl rfl (by kernel_rfl) (by decide) (fun K hK => ?_)
  refine goesV #[] Try.func49 (by kernel_rfl) rfl #[pt f] (by rfl) rfl rfl rfl (by simp [Act.eval]) ?_
  with_reducible refine (mOf_any ..).mono ?_
  rintro e w2 ⟨rfl, rfl⟩
  refine .inl ⟨_, rfl, ?_⟩
  refine hK.out _ _ hHeld (fun hHeld => ?_)
  clear hK K
  refine norm_ (a' := ?_) ?_ ?_
  rotate_left
  · show Act.put _ (some 8) _ = _
    simp only [Act.put, List.setIfInBounds_toArray, List.set_cons_zero, List.set_cons_succ, i64_w, i32_w]
    rfl
  refine last_ (i := 5) (N := some 11) #[true, true, true, true, true, true, false, false] rfl rfl (by kernel_rfl) (by decide) (fun K hK => ?_)
  refine goesV #[] Try.func45 (by kernel_rfl) rfl #[pt g, .int .i64 k] (by rfl) rfl rfl rfl (by simp [Act.eval]) ?_
  refine Calls.mono (rnumber_no g A n c k _ h hk) ?_
  rintro e w2 ⟨rfl, rfl⟩
  exact .inr ⟨_, rfl, rfl, rfl, (Tu.refl _ _).drew⟩
set_option maxHeartbeats 2000000 in
set_option maxRecDepth 100000 in
theorem read_ok_m (g f a b : Nat) (A : Option Addr) (n c k : Nat) (w : World) (xs : List Int) (F : Flds) (dv : Value)
    (h : RdAt w g A n c) (hf : FdAt w f F dv) (ha : Blk w a #[.int .i64 k] 3) (hb : Blk w b #[.func (Fn.func 49) #[] #[]] 93)
    (hx : BytesAt w A n xs) (hu : u8s xs) (hg : ∀ a, A = some a → 0 < n → a.block ≠ g) (hk : k ≤ n) (hk4 : k ≤ 4) (hc : n ≤ c) (hgf : f ≠ g) :
    Calls Try.prog 63 #[pt g, pt f, pt a, pt b] w fun e w' =>
      e = .returned (.tuple #[]) ∧ RdAt w' g (adv A c k) (n - k) (c - k) ∧ FdAt w' f { F with m := be (xs.take k) } dv ∧ Tu [g, f] w w' := by
  have h1 : w.cell? ⟨a, 0, none⟩ = some (.int .i64 k) := Blk.cell (i := 0) ha rfl
  have h2 : w.cell? ⟨b, 0, none⟩ = some (.func (Fn.func 49) #[] #[]) := Blk.cell (i := 0) hb rfl
  have hv1 : (F.cells dv)[3]? = some (.int .i64 F.m) := rfl
  go_enter Try.func63, Try.ntmps63
  go_wp2_with fail
  refine start_ (n := 8) (S := fun w' => w'.cell? ⟨a, 0, none⟩ = some (.int .i64 k) ∧ w'.cell? ⟨b, 0, none⟩ = some (.func (Fn.func 49) #[] #[])) (ds := [5, 7]) #[false, false, false, false, false, false, false, false] (by kernel_rfl) rfl rfl ⟨h1, h2⟩ (fun hHeld => ?_)
  refine take_ (i := 0) (N := some 6) (v := ?_) (a' := ?_) #[true, false, false, false, false, false, false, false] rfl rfl (by kernel_rfl) (fun _ _ _ h => h) (Or.inl ⟨by rfl, ?_⟩) hHeld ?_ ?_
  rotate_left
  · intro w' s0
    go_simp
    with_reducible rfl
  rotate_left
  · simp only [Act.put, List.setIfInBounds_toArray, List.set_cons_zero, List.set_cons_succ, i64_w, i32_w]
    rfl
  refine pure_ (i := 1) (N := some 7) (v := ?_) (a' := ?_) #[true, true, false, false, false, false, false, false] rfl rfl (by kernel_rfl) (fun _ _ _ h => h) (Or.inl ⟨by rfl, ?_⟩) ?_ ?_
  rotate_left
  · intro w'
    go_simp
    with_reducible rfl
  rotate_left
  · simp only [Act.put, List.setIfInBounds_toArray, List.set_cons_zero, List.set_cons_succ, i64_w, i32_w]
    rfl
  refine pure_ (i := 3) (N := some 9) (v := ?_) (a' := ?_) #[true, true, false, true, false, false, false, false] rfl rfl (by kernel_rfl) (fun _ _ _ h => h) (Or.inl ⟨by rfl, ?_⟩) ?_ ?_
  rotate_left
  · intro w'
    go_simp
    with_reducible rfl
  rotate_left
  · simp only [Act.put, List.setIfInBounds_toArray, List.set_cons_zero, List.set_cons_succ, i64_w, i32_w]
    rfl
  refine take_ (i := 4) (N := some 10) (v := ?_) (a' := ?_) #[true, true, false, true, true, false, false, false] rfl rfl (by kernel_rfl) (fun _ _ _ h => h) (Or.inl ⟨by rfl, ?_⟩) hHeld ?_ ?_
  rotate_left
  · intro w' s0
    go_simp
    with_reducible rfl
  rotate_left
  · simp only [Act.put, List.setIfInBounds_toArray, List.set_cons_zero, List.set_cons_succ, i64_w, i32_w]
    rfl
  refine one_ (i := 2) (N := some 8) #[true, true, true, true, true, false, false, false] rfl rfl (by kernel_rfl) (by decide) (fun K hK => ?_)
  refine goesV #[] Try.func49 (by kernel_rfl) rfl #[pt f] (by rfl) rfl rfl rfl (by simp [Act.eval]) ?_
  with_reducible refine (mOf_any ..).mono ?_
  rintro e w2 ⟨rfl, rfl⟩
  refine .inl ⟨_, rfl, ?_⟩
  refine hK.out _ _ hHeld (fun hHeld => ?_)
  clear hK K
  refine norm_ (a' := ?_) ?_ ?_
  rotate_left
  · show Act.put _ (some 8) _ = _
    simp only [Act.put, List.setIfInBounds_toArray, List.set_cons_zero, List.set_cons_succ, i64_w, i32_w]
    rfl
  refine last_ (i := 5) (N := some 11) #[true, true, true, true, true, true, false, false] rfl rfl (by kernel_rfl) (by decide) (fun K hK => ?_)
  refine goesV #[] Try.func45 (by kernel_rfl) rfl #[pt g, .int .i64 k] (by rfl) rfl rfl rfl (by simp [Act.eval]) ?_
  refine Calls.mono (rnumber_ok g A n c k _ xs h hx hu hg hk hk4 hc) ?_
  rintro e w2 ⟨rfl, hw2⟩
  have hb2 : FdAt w2 f F dv := by rw [← hw2]; exact Blk.other hf hgf _
  have hc2 := Blk.cell hb2 hv1
  have hz2 := Blk.frozen (i := 3) hb2
  have hg2 : RdAt w2 g (adv A c k) (n - k) (c - k) := by rw [← hw2]; exact Blk.set (i := 0) h _
  have ht2 : Tu [g] w w2 := by rw [← hw2]; exact ((Tu.refl _ _).drew).setCell (.inl (by simp)) _
  clear hw2
  refine .inl ⟨_, rfl, ?_⟩
  refine hK.out _ _ ?_
  clear hK K
  refine norm_ (a' := ?_) ?_ ?_
  rotate_left
  · show Act.put _ (some 11) _ = _
    simp only [Act.put, List.setIfInBounds_toArray, List.set_cons_zero, List.set_cons_succ, i64_w, i32_w]
    rfl
  refine pure_ (i := 6) (N := some 12) (v := ?_) (a' := ?_) #[true, true, true, true, true, true, true, false] rfl rfl (by kernel_rfl) (fun _ _ _ h => h) (Or.inl ⟨by rfl, ?_⟩) ?_ ?_
  rotate_left
  · intro w'
    go_simp
    with_reducible rfl
  rotate_left
  · simp only [Act.put, List.setIfInBounds_toArray, List.set_cons_zero, List.set_cons_succ, i64_w, i32_w]
    rfl
  refine last_ (i := 7) (N := none) #[true, true, true, true, true, true, true, true] rfl rfl (by kernel_rfl) (by decide) (fun K hK => ?_)
  refine skip_ (w1 := w2.setCell ⟨f, 3, none⟩ (.int .i64 (be (xs.take k)))) (by rfl) rfl (by go_simp) ?_
  refine hK.out _ _ ?_
  clear hK K
  refine done_ (by kernel_rfl) ?_
  go_wp2
  try go_end0
  exact ⟨rfl, Blk.other hg2 (Ne.symm hgf) _, Blk.set (i := 3) hb2 _, (ht2.mono (fun i hi => .inl (by simp at hi ⊢; exact .inl hi))).setCell (.inl (by simp)) _⟩
set_option maxHeartbeats 2000000 in
set_option maxRecDepth 100000 in
theorem fits_m (f b l r : Nat) (lo hi : Int) (w : World) (F : Flds) (dv : Value)
    (hf : FdAt w f F dv) (hl : Blk w l #[.int .i64 lo] 3) (hr : Blk w r #[.int .i64 hi] 3) (hb : Blk w b #[.func (Fn.func 49) #[] #[]] 93) :
    Calls Try.prog 64 #[pt f, pt b, pt l, pt r] w fun e w' =>
      e = .returned (.bool (decide (lo ≤ F.m) && decide (F.m ≤ hi))) ∧ ∃ nq, w' = w.drewN nq := by
  have h1 : w.cell? ⟨l, 0, none⟩ = some (.int .i64 lo) := Blk.cell (i := 0) hl rfl
  have h3 : w.cell? ⟨r, 0, none⟩ = some (.int .i64 hi) := Blk.cell (i := 0) hr rfl
  have h2 : w.cell? ⟨b, 0, none⟩ = some (.func (Fn.func 49) #[] #[]) := Blk.cell (i := 0) hb rfl
  have hv1 : w.cell? ⟨f, 3, none⟩ = some (.int .i64 F.m) := Blk.cell (i := 3) hf rfl
  by_cases q1 : lo ≤ F.m
  · have d1 : decide (F.m ≥ lo) = true := decide_eq_true q1
    rw [decide_eq_true q1, Bool.true_and]
    go_enter Try.func64, Try.ntmps64
    go_wp2_with fail
    go_quiet ((go_at_call 49; exact Calls.quiet_of_same (Calls.mono (mOf_any _ _) (fun _ _ h => ⟨h.1, h.2.symm⟩))))
    go_wp2
    go_ret
    exact ⟨rfl, _, rfl⟩
  · have d1 : decide (F.m ≥ lo) = false := decide_eq_false q1
    rw [decide_eq_false q1, Bool.false_and]
    go_enter Try.func64, Try.ntmps64
    go_wp2_with fail
    go_quiet ((go_at_call 49; exact Calls.quiet_of_same (Calls.mono (mOf_any _ _) (fun _ _ h => ⟨h.1, h.2.symm⟩))))
    go_wp2
    go_ret
    exact ⟨rfl, _, rfl⟩
set_option maxHeartbeats 2000000 in
set_option maxRecDepth 100000 in
theorem write_m (base : Nat) (S : List Nat) (f a b k : Nat) (v : Value) (xs : List Int) (w : World) (F : Flds) (dv : Value)
    (hf : FdAt w f F dv) (ha : Blk w a #[.int .i64 k] 3) (hb : Blk w b #[.func (Fn.func 49) #[] #[]] 93)
    (hR : Own w base (okS S w) v xs) (hbs : base ≤ w.heap.size) (h0 : 0 ≤ F.m) (hk1 : 1 ≤ k) (hk : k ≤ 4) (hl : xs.length ≤ 140737488350000) :
    Calls Try.prog 65 #[v, pt f, pt b, pt a] w fun e w' => ∃ v', e = .returned v' ∧ Own w' base (okS S w) v' (xs ++ beB F.m k) ∧ Tu S w w' ∧ Below base w w' := by
  have h1 : w.cell? ⟨a, 0, none⟩ = some (.int .i64 k) := Blk.cell (i := 0) ha rfl
  have h2 : w.cell? ⟨b, 0, none⟩ = some (.func (Fn.func 49) #[] #[]) := Blk.cell (i := 0) hb rfl
  have hv1 : w.cell? ⟨f, 3, none⟩ = some (.int .i64 F.m) := Blk.cell (i := 3) hf rfl
  go_enter Try.func65, Try.ntmps65
  go_wp2_with fail
  refine start_ (n := 9) (S := fun w' => w'.cell? ⟨a, 0, none⟩ = some (.int .i64 k) ∧ w'.cell? ⟨b, 0, none⟩ = some (.func (Fn.func 49) #[] #[]) ∧ w'.cell? ⟨f, 3, none⟩ = some (.int .i64 F.m)) (ds := [7]) #[false, false, false, false, false, false, false, false, false] (by kernel_rfl) rfl rfl ⟨h1, h2, hv1⟩ (fun hHeld => ?_)
  refine pure_ (i := 0) (N := some 7) (v := ?_) (a' := ?_) #[true, false, false, false, false, false, false, false, false] rfl rfl (by kernel_rfl) (fun _ _ _ h => h) (Or.inl ⟨by rfl, ?_⟩) ?_ ?_
  rotate_left
  · intro w'
    go_simp
    with_reducible rfl
  rotate_left
  · simp only [Act.put, List.setIfInBounds_toArray, List.set_cons_zero, List.set_cons_succ, i64_w, i32_w]
    rfl
  refine take_ (i := 1) (N := some 8) (v := ?_) (a' := ?_) #[true, true, false, false, false, false, false, false, false] rfl rfl (by kernel_rfl) (fun _ _ _ h => h) (Or.inl ⟨by rfl, ?_⟩) hHeld ?_ ?_
  rotate_left
  · intro w' s0
    go_simp
    with_reducible rfl
  rotate_left
  · simp only [Act.put, List.setIfInBounds_toArray, List.set_cons_zero, List.set_cons_succ, i64_w, i32_w]
    rfl
  refine pure_ (i := 2) (N := some 9) (v := ?_) (a' := ?_) #[true, true, true, false, false, false, false, false, false] rfl rfl (by kernel_rfl) (fun _ _ _ h => h) (Or.inl ⟨by rfl, ?_⟩) ?_ ?_
  rotate_left
  · intro w'
    go_simp
    with_reducible rfl
  rotate_left
  · simp only [Act.put, List.setIfInBounds_toArray, List.set_cons_zero, List.set_cons_succ, i64_w, i32_w]
    rfl
  refine take_ (i := 6) (N := some 13) (v := ?_) (a' := ?_) #[true, true, true, false, false, false, true, false, false] rfl rfl (by kernel_rfl) (fun _ _ _ h => h) (Or.inl ⟨by rfl, ?_⟩) hHeld ?_ ?_
  rotate_left
  · intro w' s0
    go_simp
    with_reducible rfl
  rotate_left
  · simp only [Act.put, List.setIfInBounds_toArray, List.set_cons_zero, List.set_cons_succ, i64_w, i32_w]
    rfl
  refine one_ (i := 3) (N := some 10) #[true, true, true, true, false, false, true, false, false] rfl rfl (by kernel_rfl) (by decide) (fun K hK => ?_)
  refine goesV #[] Try.func49 (by kernel_rfl) rfl #[pt f] (by rfl) rfl rfl rfl (by simp [Act.eval]) ?_
  with_reducible refine (mOf_any ..).mono ?_
  rintro e w2 ⟨rfl, rfl⟩
  refine .inl ⟨_, rfl, ?_⟩
  refine hK.out _ _ hHeld (fun hHeld => ?_)
  clear hK K
  refine norm_ (a' := ?_) ?_ ?_
  rotate_left
  · show Act.put _ (some 10) _ = _
    simp only [Act.put, List.setIfInBounds_toArray, List.set_cons_zero, List.set_cons_succ, i64_w, i32_w]
    rfl
  refine pure_ (i := 4) (N := some 11) (v := ?_) (a' := ?_) #[true, true, true, true, true, false, true, false, false] rfl rfl (by kernel_rfl) (fun _ _ _ h => h) (Or.inl ⟨by rfl, ?_⟩) ?_ ?_
  rotate_left
  · intro w'
    go_simp
    with_reducible rfl
  rotate_left
  · simp only [Act.put, List.setIfInBounds_toArray, List.set_cons_zero, List.set_cons_succ, i64_w, i32_w]
    rfl
  refine take_ (i := 5) (N := some 12) (v := ?_) (a' := ?_) #[true, true, true, true, true, true, true, false, false] rfl rfl (by kernel_rfl) (fun _ _ _ h => h) (Or.inl ⟨by rfl, ?_⟩) hHeld ?_ ?_
  rotate_left
  · intro w' s0
    go_simp
    with_reducible rfl
  rotate_left
  · simp only [Act.put, List.setIfInBounds_toArray, List.set_cons_zero, List.set_cons_succ, i64_w, i32_w]
    rfl
  refine last_ (i := 7) (N := some 14) #[true, true, true, true, true, true, true, true, false] rfl rfl (by kernel_rfl) (by decide) (fun K hK => ?_)
  refine goesV #[] Try.func48 (by kernel_rfl) rfl #[v, .int .i64 F.m, .int .i64 k] (by rfl) rfl rfl rfl (by simp [Act.eval]) ?_
  refine Calls.mono (put_ok base S v xs _ k _ (Kd.R_step hR (fun _ _ _ => rfl)) hbs h0 hk1 hk hl) ?_
  rintro e w2 ⟨v', rfl, ho, ht, hb2⟩
  refine .inl ⟨_, rfl, ?_⟩
  refine hK.out _ _ ?_
  clear hK K
  refine norm_ (a' := ?_) ?_ ?_
  rotate_left
  · show Act.put _ (some 14) _ = _
    simp only [Act.put, List.setIfInBounds_toArray, List.set_cons_zero, List.set_cons_succ, i64_w, i32_w]
    rfl
  refine pure_ (i := 8) (N := some 6) (v := ?_) (a' := ?_) #[true, true, true, true, true, true, true, true, true] rfl rfl (by kernel_rfl) (fun _ _ _ h => h) (Or.inl ⟨by rfl, ?_⟩) ?_ ?_
  rotate_left
  · intro w'
    go_simp
    with_reducible rfl
  rotate_left
  · simp only [Act.put, List.setIfInBounds_toArray, List.set_cons_zero, List.set_cons_succ, i64_w, i32_w]
    rfl
  refine done_ (by kernel_rfl) ?_
  go_wp2
  go_ret
  exact ⟨_, rfl, ho, ((Tu.refl _ _).drew).trans ht, ((Below.refl _ _).drew).trans hb2⟩
theorem clear_m (f b : Nat) (w : World) (F : Flds) (dv : Value) (hf : FdAt w f F dv) (hb : Blk w b #[.func (Fn.func 49) #[] #[]] 93) :
    Calls Try.prog 66 #[pt f, pt b] w fun e w' => e = .returned (.tuple #[]) ∧ FdAt w' f { F with m := 0 } dv ∧ Tu [f] w w' := by
  have h2 : w.cell? ⟨b, 0, none⟩ = some (.func (Fn.func 49) #[] #[]) := Blk.cell (i := 0) hb rfl
  have hv1 : w.cell? ⟨f, 3, none⟩ = some (.int .i64 F.m) := Blk.cell (i := 3) hf rfl
  have hz2 := Blk.frozen (i := 3) hf
  go_enter Try.func66, Try.ntmps66
  go_wp2_with (with_reducible refine (mOf_any ..).mono ?_; rintro e w2 ⟨rfl, rfl⟩)
  go_end0
  exact ⟨rfl, Blk.set (i := 3) hf _, (Tu.refl _ _).setCell (.inl (by simp)) _⟩
end Go.Proofs.Ytpflenaoplblkaa.ProC
