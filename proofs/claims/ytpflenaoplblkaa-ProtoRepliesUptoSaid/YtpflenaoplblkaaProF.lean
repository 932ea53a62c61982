import Derived.Test.YtpflenaoplblkaaProE
namespace Go.Proofs.Ytpflenaoplblkaa.ProF
open Go.RowKit Go.Proofs.YtpflenaoplblkaaW.PrintWords Go.Proofs.YtpflenaoplblkaaW.PrintLast Go.Proofs.Ytpflenaoplblkaa.ProA Go.Proofs.Ytpflenaoplblkaa.ProB Go.Proofs.Ytpflenaoplblkaa.ProC Go.Proofs.Ytpflenaoplblkaa.ProI Go.Proofs.Ytpflenaoplblkaa.ProD Go.Proofs.Ytpflenaoplblkaa.ProE
set_option linter.unusedVariables false
set_option linter.unusedSimpArgs false
set_option maxHeartbeats 2000000 in
set_option maxRecDepth 100000 in
theorem bread_no1 (g f : Nat) (A : Option Addr) (n c : Nat) (w : World) (h : RdAt w g A n c) (h1 : n < 4) :
    Calls Try.prog 73 #[pt g, pt f] w fun e w' => e = wrong 121 ∧ Tu [g] w w' := by
  go_enter Try.func73, Try.ntmps73
  go_wp2_with (go_at_call 45; refine Calls.mono (rnumber_no g A n c 4 _ h h1) ?_; rintro e w2 ⟨rfl, rfl⟩)
  exact ⟨rfl, rfl, Tu.refl _ _⟩
set_option maxHeartbeats 2000000 in
set_option maxRecDepth 100000 in
theorem bread_no2 (g f : Nat) (A : Option Addr) (n c l : Nat) (w : World) (xs : List Int)
    (h : RdAt w g A n c) (hx : BytesAt w A n xs) (hu : u8s xs) (hg : ∀ a, A = some a → a.block ≠ g) (hc : n ≤ c)
    (h1 : 4 ≤ n) (hl : be (xs.take 4) = (l : Int)) (h2 : n < 4 + l) :
    Calls Try.prog 73 #[pt g, pt f] w fun e w' => e = wrong 121 ∧ Tu [g] w w' := by
  go_enter Try.func73, Try.ntmps73
  go_wp2_with (first
    | (go_at_call 45; refine Calls.mono (rnumber_ok g A n c 4 _ xs h hx hu (fun a ha _ => hg a ha) h1 (by omega) hc) ?_; rintro e w2 ⟨rfl, hw2⟩; have hg2 : RdAt w2 g (adv A c 4) (n - 4) (c - 4) := (by rw [← hw2]; exact Blk.set (i := 0) h _); have ht2 : Tu [g] w w2 := (by rw [← hw2]; exact (Tu.refl _ _).setCell (.inl (by simp)) _); clear hw2)
    | (go_at_call 68; refine Calls.mono (rbytes_no g _ _ _ _ _ hg2 (by first | omega | (rw [hl]; omega))) ?_; rintro e w3 ⟨rfl, rfl⟩))
  exact ⟨rfl, rfl, ht2⟩
theorem Tu.le {S : List Nat} {a b : World} (h : Tu S a b) {S' : List Nat} (hs : ∀ i, i ∈ S → i ∈ S') : Tu S' a b := h.mono (fun i hi => .inl (hs i hi))
set_option maxHeartbeats 2000000 in
set_option maxRecDepth 100000 in
theorem nwrite (base : Nat) (S : List Nat) (f : Nat) (v : Value) (xs : List Int) (w : World) (F : Flds) (dv : Value) (hf : FdAt w f F dv) (hs : F.name.size ≤ 1000000) (hfS : f ∉ S)
    (hR : Own w base (okS S w) v xs) (hbs : base ≤ w.heap.size) (hl : xs.length ≤ 1407374883500) :
    Calls Try.prog 71 #[v, pt f] w fun e w' => ∃ v', e = .returned v' ∧ Own w' base (okS S w) v' (xs ++ (beB F.name.size 1 ++ bytesOf F.name)) ∧ Tu S w w' ∧ Below base w w' := by
  have hv1 : w.cell? ⟨f, 4, none⟩ = some (.string F.name) := Blk.cell (i := 4) hf rfl
  go_enter Try.func71, Try.ntmps71
  go_wp2_with fail
  refine start_ (n := 13) (S := fun w' => w'.cell? ⟨f, 4, none⟩ = some (.string F.name)) (ds := [11]) #[false, false, false, false, false, false, false, false, false, false, false, false, false] (by kernel_rfl) rfl rfl hv1 (fun hHeld => ?_)
  refine pure_ (i := 0) (N := some 5) (v := ?_) (a' := ?_) #[true, false, false, false, false, false, false, false, false, false, false, false, false] rfl rfl (by kernel_rfl) (fun _ _ _ h => h) (Or.inl ⟨by rfl, ?_⟩) ?_ ?_
  rotate_left
  · intro w'
    go_simp
    with_reducible rfl
  rotate_left
  · simp only [Act.put, List.setIfInBounds_toArray, List.set_cons_zero, List.set_cons_succ, i64_w, i32_w]
    rfl
  refine pure_ (i := 1) (N := some 6) (v := ?_) (a' := ?_) #[true, true, false, false, false, false, false, false, false, false, false, false, false] rfl rfl (by kernel_rfl) (fun _ _ _ h => h) (Or.inl ⟨by rfl, ?_⟩) ?_ ?_
  rotate_left
  · intro w'
    go_simp
    with_reducible rfl
  rotate_left
  · simp only [Act.put, List.setIfInBounds_toArray, List.set_cons_zero, List.set_cons_succ, i64_w, i32_w]
    rfl
  refine pure_ (i := 2) (N := some 7) (v := ?_) (a' := ?_) #[true, true, true, false, false, false, false, false, false, false, false, false, false] rfl rfl (by kernel_rfl) (fun _ _ _ h => h) (Or.inl ⟨by rfl, ?_⟩) ?_ ?_
  rotate_left
  · intro w'
    go_simp
    with_reducible rfl
  rotate_left
  · simp only [Act.put, List.setIfInBounds_toArray, List.set_cons_zero, List.set_cons_succ, i64_w, i32_w]
    rfl
  refine pure_ (i := 3) (N := some 8) (v := ?_) (a' := ?_) #[true, true, true, true, false, false, false, false, false, false, false, false, false] rfl rfl (by kernel_rfl) (fun _ _ _ h => h) (Or.inl ⟨by rfl, ?_⟩) ?_ ?_
  rotate_left
  · intro w'
    go_simp
    with_reducible rfl
  rotate_left
  · simp only [Act.put, List.setIfInBounds_toArray, List.set_cons_zero, List.set_cons_succ, i64_w, i32_w]
    rfl
  refine take_ (i := 4) (N := some 9) (v := ?_) (a' := ?_) #[true, true, true, true, true, false, false, false, false, false, false, false, false] rfl rfl (by kernel_rfl) (fun _ _ _ h => h) (Or.inl ⟨by rfl, ?_⟩) hHeld ?_ ?_
  rotate_left
  · intro w' s0
    go_simp
    with_reducible rfl
  rotate_left
  · simp only [Act.put, List.setIfInBounds_toArray, List.set_cons_zero, List.set_cons_succ, i64_w, i32_w]
    rfl
  refine pure_ (i := 5) (N := some 10) (v := ?_) (a' := ?_) #[true, true, true, true, true, true, false, false, false, false, false, false, false] rfl rfl (by kernel_rfl) (fun _ _ _ h => h) (Or.inl ⟨by rfl, ?_⟩) ?_ ?_
  rotate_left
  · intro w'
    go_simp
    with_reducible rfl
  rotate_left
  · simp only [Act.put, List.setIfInBounds_toArray, List.set_cons_zero, List.set_cons_succ, i64_w, i32_w]
    rfl
  refine pure_ (i := 7) (N := some 12) (v := ?_) (a' := ?_) #[true, true, true, true, true, true, false, true, false, false, false, false, false] rfl rfl (by kernel_rfl) (fun _ _ _ h => h) (Or.inl ⟨by rfl, ?_⟩) ?_ ?_
  rotate_left
  · intro w'
    go_simp
    with_reducible rfl
  rotate_left
  · simp only [Act.put, List.setIfInBounds_toArray, List.set_cons_zero, List.set_cons_succ, i64_w, i32_w]
    rfl
  refine pure_ (i := 8) (N := some 13) (v := ?_) (a' := ?_) #[true, true, true, true, true, true, false, true, true, false, false, false, false] rfl rfl (by kernel_rfl) (fun _ _ _ h => h) (Or.inl ⟨by rfl, ?_⟩) ?_ ?_
  rotate_left
  · intro w'
    go_simp
    with_reducible rfl
  rotate_left
  · simp only [Act.put, List.setIfInBounds_toArray, List.set_cons_zero, List.set_cons_succ, i64_w, i32_w]
    rfl
  refine pure_ (i := 9) (N := some 14) (v := ?_) (a' := ?_) #[true, true, true, true, true, true, false, true, true, true, false, false, false] rfl rfl (by kernel_rfl) (fun _ _ _ h => h) (Or.inl ⟨by rfl, ?_⟩) ?_ ?_
  rotate_left
  · intro w'
    go_simp
    with_reducible rfl
  rotate_left
  · simp only [Act.put, List.setIfInBounds_toArray, List.set_cons_zero, List.set_cons_succ, i64_w, i32_w]
    rfl
  refine take_ (i := 10) (N := some 15) (v := ?_) (a' := ?_) #[true, true, true, true, true, true, false, true, true, true, true, false, false] rfl rfl (by kernel_rfl) (fun _ _ _ h => h) (Or.inl ⟨by rfl, ?_⟩) hHeld ?_ ?_
  rotate_left
  · intro w' s0
    go_simp
    with_reducible rfl
  rotate_left
  · simp only [Act.put, List.setIfInBounds_toArray, List.set_cons_zero, List.set_cons_succ, i64_w, i32_w]
    rfl
  refine one_ (i := 6) (N := some 11) #[true, true, true, true, true, true, true, true, true, true, true, false, false] rfl rfl (by kernel_rfl) (by decide) (fun K hK => ?_)
  refine goesV #[] Try.func48 (by kernel_rfl) rfl #[v, .int .i64 F.name.size, .int .i64 1] (by rfl) rfl rfl rfl (by simp [Act.eval]) ?_
  refine Calls.mono (put_ok base S v xs _ 1 _ (Kd.R_step hR (fun _ _ _ => rfl)) hbs (by omega) (by omega) (by omega) (by omega)) ?_
  rintro e w2 ⟨v', rfl, ho, ht, hb2⟩
  have ht' : Tu S w w2 := ((Tu.refl _ _).drew).trans ht
  have hb' : Below base w w2 := ((Below.refl _ _).drew).trans hb2
  have hR' : Own w2 base (okS S w) v' (xs ++ beB F.name.size 1) := Kd.R_mono ho (fun k hk => hk)
  have hS2 := Blk.cell (i := 4) (hf.tu ht' hfS) rfl
  refine .inl ⟨_, rfl, ?_⟩
  refine hK.out _ _ hS2 (fun hHeld => ?_)
  clear hK K
  refine norm_ (a' := ?_) ?_ ?_
  rotate_left
  · show Act.put _ (some 11) _ = _
    simp only [Act.put, List.setIfInBounds_toArray, List.set_cons_zero, List.set_cons_succ, i64_w, i32_w]
    rfl
  refine last_ (i := 11) (N := some 16) #[true, true, true, true, true, true, true, true, true, true, true, true, false] rfl rfl (by kernel_rfl) (by decide) (fun K hK => ?_)
  refine app_str_step base S w (.tmp 11) (.tmp 15) 22 9 Try.t5 (by rfl) rfl rfl Try.underlying22 Try.underlying9 (by kernel_rfl) rfl rfl rfl _ _ F.name rfl rfl hR' ht' hb' (by simp [beB_len]; omega) hbs ?_
  intro v1 w3 ho3 ht3 hb3
  refine hK.out _ _ ?_
  clear hK K
  refine norm_ (a' := ?_) ?_ ?_
  rotate_left
  · show Act.put _ (some 16) _ = _
    simp only [Act.put, List.setIfInBounds_toArray, List.set_cons_zero, List.set_cons_succ, i64_w, i32_w]
    rfl
  refine pure_ (i := 12) (N := some 4) (v := ?_) (a' := ?_) #[true, true, true, true, true, true, true, true, true, true, true, true, true] rfl rfl (by kernel_rfl) (fun _ _ _ h => h) (Or.inl ⟨by rfl, ?_⟩) ?_ ?_
  rotate_left
  · intro w'
    go_simp
    with_reducible rfl
  rotate_left
  · simp only [Act.put, List.setIfInBounds_toArray, List.set_cons_zero, List.set_cons_succ, i64_w, i32_w]
    rfl
  refine done_ (by kernel_rfl) ?_
  go_wp2
  go_ret
  refine ⟨_, rfl, ?_, ht3, hb3⟩
  rw [← List.append_assoc]
  exact ho3
set_option maxHeartbeats 2000000 in
set_option maxRecDepth 100000 in
theorem bwrite (base : Nat) (S : List Nat) (f : Nat) (v : Value) (xs : List Int) (w : World) (F : Flds) (A : Option Addr) (n c : Nat) (hf : FdAt w f F (.slice A n c)) (hx : BytesAt w A n F.data) (hA : ∀ a, A = some a → 0 < n → a.block ∉ S) (hs : n ≤ 1407374883500) (hfS : f ∉ S)
    (hR : Own w base (okS S w) v xs) (hbs : base ≤ w.heap.size) (hl : xs.length ≤ 1407374883500) :
    Calls Try.prog 75 #[v, pt f] w fun e w' => ∃ v', e = .returned v' ∧ Own w' base (okS S w) v' (xs ++ (beB n 4 ++ F.data)) ∧ Tu S w w' ∧ Below base w w' := by
  have hv1 : w.cell? ⟨f, 5, none⟩ = some (.slice A n c) := Blk.cell (i := 5) hf rfl
  go_enter Try.func75, Try.ntmps75
  go_wp2_with fail
  refine start_ (n := 13) (S := fun w' => w'.cell? ⟨f, 5, none⟩ = some (.slice A n c)) (ds := [11]) #[false, false, false, false, false, false, false, false, false, false, false, false, false] (by kernel_rfl) rfl rfl hv1 (fun hHeld => ?_)
  refine pure_ (i := 0) (N := some 5) (v := ?_) (a' := ?_) #[true, false, false, false, false, false, false, false, false, false, false, false, false] rfl rfl (by kernel_rfl) (fun _ _ _ h => h) (Or.inl ⟨by rfl, ?_⟩) ?_ ?_
  rotate_left
  · intro w'
    go_simp
    with_reducible rfl
  rotate_left
  · simp only [Act.put, List.setIfInBounds_toArray, List.set_cons_zero, List.set_cons_succ, i64_w, i32_w]
    rfl
  refine pure_ (i := 1) (N := some 6) (v := ?_) (a' := ?_) #[true, true, false, false, false, false, false, false, false, false, false, false, false] rfl rfl (by kernel_rfl) (fun _ _ _ h => h) (Or.inl ⟨by rfl, ?_⟩) ?_ ?_
  rotate_left
  · intro w'
    go_simp
    with_reducible rfl
  rotate_left
  · simp only [Act.put, List.setIfInBounds_toArray, List.set_cons_zero, List.set_cons_succ, i64_w, i32_w]
    rfl
  refine pure_ (i := 2) (N := some 7) (v := ?_) (a' := ?_) #[true, true, true, false, false, false, false, false, false, false, false, false, false] rfl rfl (by kernel_rfl) (fun _ _ _ h => h) (Or.inl ⟨by rfl, ?_⟩) ?_ ?_
  rotate_left
  · intro w'
    go_simp
    with_reducible rfl
  rotate_left
  · simp only [Act.put, List.setIfInBounds_toArray, List.set_cons_zero, List.set_cons_succ, i64_w, i32_w]
    rfl
  refine pure_ (i := 3) (N := some 8) (v := ?_) (a' := ?_) #[true, true, true, true, false, false, false, false, false, false, false, false, false] rfl rfl (by kernel_rfl) (fun _ _ _ h => h) (Or.inl ⟨by rfl, ?_⟩) ?_ ?_
  rotate_left
  · intro w'
    go_simp
    with_reducible rfl
  rotate_left
  · simp only [Act.put, List.setIfInBounds_toArray, List.set_cons_zero, List.set_cons_succ, i64_w, i32_w]
    rfl
  refine take_ (i := 4) (N := some 9) (v := ?_) (a' := ?_) #[true, true, true, true, true, false, false, false, false, false, false, false, false] rfl rfl (by kernel_rfl) (fun _ _ _ h => h) (Or.inl ⟨by rfl, ?_⟩) hHeld ?_ ?_
  rotate_left
  · intro w' s0
    go_simp
    with_reducible rfl
  rotate_left
  · simp only [Act.put, List.setIfInBounds_toArray, List.set_cons_zero, List.set_cons_succ, i64_w, i32_w]
    rfl
  refine pure_ (i := 5) (N := some 10) (v := ?_) (a' := ?_) #[true, true, true, true, true, true, false, false, false, false, false, false, false] rfl rfl (by kernel_rfl) (fun _ _ _ h => h) (Or.inl ⟨by rfl, ?_⟩) ?_ ?_
  rotate_left
  · intro w'
    go_simp
    with_reducible rfl
  rotate_left
  · simp only [Act.put, List.setIfInBounds_toArray, List.set_cons_zero, List.set_cons_succ, i64_w, i32_w]
    rfl
  refine pure_ (i := 7) (N := some 12) (v := ?_) (a' := ?_) #[true, true, true, true, true, true, false, true, false, false, false, false, false] rfl rfl (by kernel_rfl) (fun _ _ _ h => h) (Or.inl ⟨by rfl, ?_⟩) ?_ ?_
  rotate_left
  · intro w'
    go_simp
    with_reducible rfl
  rotate_left
  · simp only [Act.put, List.setIfInBounds_toArray, List.set_cons_zero, List.set_cons_succ, i64_w, i32_w]
    rfl
  refine pure_ (i := 8) (N := some 13) (v := ?_) (a' := ?_) #[true, true, true, true, true, true, false, true, true, false, false, false, false] rfl rfl (by kernel_rfl) (fun _ _ _ h => h) (Or.inl ⟨by rfl, ?_⟩) ?_ ?_
  rotate_left
  · intro w'
    go_simp
    with_reducible rfl
  rotate_left
  · simp only [Act.put, List.setIfInBounds_toArray, List.set_cons_zero, List.set_cons_succ, i64_w, i32_w]
    rfl
  refine pure_ (i := 9) (N := some 14) (v := ?_) (a' := ?_) #[true, true, true, true, true, true, false, true, true, true, false, false, false] rfl rfl (by kernel_rfl) (fun _ _ _ h => h) (Or.inl ⟨by rfl, ?_⟩) ?_ ?_
  rotate_left
  · intro w'
    go_simp
    with_reducible rfl
  rotate_left
  · simp only [Act.put, List.setIfInBounds_toArray, List.set_cons_zero, List.set_cons_succ, i64_w, i32_w]
    rfl
  refine take_ (i := 10) (N := some 15) (v := ?_) (a' := ?_) #[true, true, true, true, true, true, false, true, true, true, true, false, false] rfl rfl (by kernel_rfl) (fun _ _ _ h => h) (Or.inl ⟨by rfl, ?_⟩) hHeld ?_ ?_
  rotate_left
  · intro w' s0
    go_simp
    with_reducible rfl
  rotate_left
  · simp only [Act.put, List.setIfInBounds_toArray, List.set_cons_zero, List.set_cons_succ, i64_w, i32_w]
    rfl
  refine one_ (i := 6) (N := some 11) #[true, true, true, true, true, true, true, true, true, true, true, false, false] rfl rfl (by kernel_rfl) (by decide) (fun K hK => ?_)
  refine goesV #[] Try.func48 (by kernel_rfl) rfl #[v, .int .i64 n, .int .i64 4] (by rfl) rfl rfl rfl (by simp [Act.eval]) ?_
  refine Calls.mono (put_ok base S v xs _ 4 _ (Kd.R_step hR (fun _ _ _ => rfl)) hbs (by omega) (by omega) (by omega) (by omega)) ?_
  rintro e w2 ⟨v', rfl, ho, ht, hb2⟩
  have ht' : Tu S w w2 := ((Tu.refl _ _).drew).trans ht
  have hb' : Below base w w2 := ((Below.refl _ _).drew).trans hb2
  have hR' : Own w2 base (okS S w) v' (xs ++ beB n 4) := Kd.R_mono ho (fun k hk => hk)
  have hS2 := Blk.cell (i := 5) (hf.tu ht' hfS) rfl
  refine .inl ⟨_, rfl, ?_⟩
  refine hK.out _ _ hS2 (fun hHeld => ?_)
  clear hK K
  refine norm_ (a' := ?_) ?_ ?_
  rotate_left
  · show Act.put _ (some 11) _ = _
    simp only [Act.put, List.setIfInBounds_toArray, List.set_cons_zero, List.set_cons_succ, i64_w, i32_w]
    rfl
  refine last_ (i := 11) (N := some 16) #[true, true, true, true, true, true, true, true, true, true, true, true, false] rfl rfl (by kernel_rfl) (by decide) (fun K hK => ?_)
  refine Kd.R_append_rows_step (Kd.int .u8) (Rr := (Kd.int .u8).K w2) (w0 := w) base (by rfl) (.tmp 11) (.tmp 15) 22 5 (.int .u8 0) 1 rfl Try.underlying22 info5 rfl (by decide) (by omega) _ (xs ++ beB n 4) F.data A n c (okS S w) (fun _ => False) rfl rfl hR' (BytesAt.tu hx ht' hA) (fun _ _ hh => hh) (fun _ hk => hk.elim) (fun q hq => .inr (Nat.le_trans ht'.size hq)) hb' (Nat.le_trans hbs ht'.size) (by simp [beB_len]; omega) ?_
  intro v1 w3 ho3 hb3 hg3 hat
  have ht3 : Tu S w w3 := ht'.grown hg3 (fun q hq => hR'.1 q hq)
  refine hK.out _ _ ?_
  clear hK K
  refine norm_ (a' := ?_) ?_ ?_
  rotate_left
  · show Act.put _ (some 16) _ = _
    simp only [Act.put, List.setIfInBounds_toArray, List.set_cons_zero, List.set_cons_succ, i64_w, i32_w]
    rfl
  refine pure_ (i := 12) (N := some 4) (v := ?_) (a' := ?_) #[true, true, true, true, true, true, true, true, true, true, true, true, true] rfl rfl (by kernel_rfl) (fun _ _ _ h => h) (Or.inl ⟨by rfl, ?_⟩) ?_ ?_
  rotate_left
  · intro w'
    go_simp
    with_reducible rfl
  rotate_left
  · simp only [Act.put, List.setIfInBounds_toArray, List.set_cons_zero, List.set_cons_succ, i64_w, i32_w]
    rfl
  refine done_ (by kernel_rfl) ?_
  go_wp2
  go_ret
  refine ⟨_, rfl, ?_, ht3, hb3⟩
  rw [← List.append_assoc]
  exact ho3
end Go.Proofs.Ytpflenaoplblkaa.ProF
