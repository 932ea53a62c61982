import Derived.Test.YtpflenaoplblkaaProQ
namespace Go.Proofs.Ytpflenaoplblkaa.ProR
open Go.RowKit Go.Proofs.YtpflenaoplblkaaW.PrintWords Go.Proofs.YtpflenaoplblkaaW.PrintLast Go.Proofs.Ytpflenaoplblkaa.ProA Go.Proofs.Ytpflenaoplblkaa.ProB Go.Proofs.Ytpflenaoplblkaa.ProC Go.Proofs.Ytpflenaoplblkaa.ProI Go.Proofs.Ytpflenaoplblkaa.ProD Go.Proofs.Ytpflenaoplblkaa.ProE Go.Proofs.Ytpflenaoplblkaa.ProF Go.Proofs.Ytpflenaoplblkaa.ProG Go.Proofs.Ytpflenaoplblkaa.ProH Go.Proofs.Ytpflenaoplblkaa.ProJ Go.Proofs.Ytpflenaoplblkaa.ProK Go.Proofs.Ytpflenaoplblkaa.ProL Go.Proofs.Ytpflenaoplblkaa.ProM Go.Proofs.Ytpflenaoplblkaa.ProN Go.Proofs.Ytpflenaoplblkaa.ProO Go.Proofs.Ytpflenaoplblkaa.ProP Go.Proofs.Ytpflenaoplblkaa.ProQ
set_option linter.unusedVariables false
set_option linter.unusedSimpArgs false
def fldM (M : S35) : Flds := ⟨M.f0, M.f1, M.f3, 0, M.f2, M.f4⟩
def fldR (M : S44) : Flds := ⟨M.f0, 0, M.f1, M.f2, ByteArray.empty, M.f3⟩
theorem enc_lift {w w1 w2 : World} {r : Except Int (List Int)} {e : Ending} {w' : World} (h : EncPost w2 r e w') (h1 : Below w.heap.size w w2) : EncPost w r e w' := by
  obtain ⟨v, code, rfl, hb, hc⟩ := h
  refine ⟨v, code, rfl, h1.trans (hb.mono h1.size), ?_⟩
  cases r with
  | error q => exact hc
  | ok bs => exact ⟨hc.1, Kd.R_lower hc.2 h1.size⟩
theorem msgTab_len : msgTab.length ≤ 200 := by decide
theorem repTab_len : repTab.length ≤ 200 := by decide
set_option maxHeartbeats 2000000 in
set_option maxRecDepth 100000 in
theorem Encode_ok (M : S35) (B : Option Addr) (m c : Nat) (w : World) (hx : BytesAt w B m M.f4) (hbig : m ≤ 1000000000) :
    Calls Try.prog 15 #[.agg #[.int .i64 M.f0, .int .i64 M.f1, .string M.f2, .int .i64 M.f3, .slice B m c]] w (EncPost w (encS msgTab (fldM M))) := by
  go_enter Try.func15, Try.ntmps15
  go_wp2_with fail
  have hb0 : Blk (w.alloc (.cells #[.int .i64 M.f0, .int .i64 M.f1, .string M.f2, .int .i64 M.f3, .slice B m c] 35)) w.heap.size #[.int .i64 M.f0, .int .i64 M.f1, .string M.f2, .int .i64 M.f3, .slice B m c] 35 := blkNew rfl
  refine start_ (n := 17) (S := fun w' => w'.cell? ⟨w.heap.size, 0, none⟩ = some (.int .i64 M.f0) ∧ w'.cell? ⟨w.heap.size, 1, none⟩ = some (.int .i64 M.f1) ∧ w'.cell? ⟨w.heap.size, 2, none⟩ = some (.string M.f2) ∧ w'.cell? ⟨w.heap.size, 3, none⟩ = some (.int .i64 M.f3) ∧ w'.cell? ⟨w.heap.size, 4, none⟩ = some (.slice B m c)) (ds := [12]) #[false, false, false, false, false, false, false, false, false, false, false, false, false, false, false, false, false] (by kernel_rfl) rfl rfl ⟨Blk.cell (i := 0) hb0 rfl, Blk.cell (i := 1) hb0 rfl, Blk.cell (i := 2) hb0 rfl, Blk.cell (i := 3) hb0 rfl, Blk.cell (i := 4) hb0 rfl⟩ (fun hHeld => ?_)
  refine pure_ (i := 1) (N := some 5) (v := ?_) (a' := ?_) #[false, true, false, false, false, false, false, false, false, false, false, false, false, false, false, false, false] rfl rfl (by kernel_rfl) (fun _ _ _ h => h) (Or.inl ⟨by rfl, ?_⟩) ?_ ?_
  rotate_left
  · intro w'
    go_simp
    with_reducible rfl
  rotate_left
  · simp only [Act.put, List.setIfInBounds_toArray, List.set_cons_zero, List.set_cons_succ, i64_w, i32_w]
    rfl
  refine take_ (i := 2) (N := some 6) (v := ?_) (a' := ?_) #[false, true, true, false, false, false, false, false, false, false, false, false, false, false, false, false, false] rfl rfl (by kernel_rfl) (fun _ _ _ h => h) (Or.inl ⟨by rfl, ?_⟩) hHeld ?_ ?_
  rotate_left
  · intro w' s0
    go_simp
    with_reducible rfl
  rotate_left
  · simp only [Act.put, List.setIfInBounds_toArray, List.set_cons_zero, List.set_cons_succ, i64_w, i32_w]
    rfl
  refine pure_ (i := 3) (N := some 7) (v := ?_) (a' := ?_) #[false, true, true, true, false, false, false, false, false, false, false, false, false, false, false, false, false] rfl rfl (by kernel_rfl) (fun _ _ _ h => h) (Or.inl ⟨by rfl, ?_⟩) ?_ ?_
  rotate_left
  · intro w'
    go_simp
    with_reducible rfl
  rotate_left
  · simp only [Act.put, List.setIfInBounds_toArray, List.set_cons_zero, List.set_cons_succ, i64_w, i32_w]
    rfl
  refine take_ (i := 4) (N := some 8) (v := ?_) (a' := ?_) #[false, true, true, true, true, false, false, false, false, false, false, false, false, false, false, false, false] rfl rfl (by kernel_rfl) (fun _ _ _ h => h) (Or.inl ⟨by rfl, ?_⟩) hHeld ?_ ?_
  rotate_left
  · intro w' s0
    go_simp
    with_reducible rfl
  rotate_left
  · simp only [Act.put, List.setIfInBounds_toArray, List.set_cons_zero, List.set_cons_succ, i64_w, i32_w]
    rfl
  refine pure_ (i := 5) (N := some 9) (v := ?_) (a' := ?_) #[false, true, true, true, true, true, false, false, false, false, false, false, false, false, false, false, false] rfl rfl (by kernel_rfl) (fun _ _ _ h => h) (Or.inl ⟨by rfl, ?_⟩) ?_ ?_
  rotate_left
  · intro w'
    go_simp
    with_reducible rfl
  rotate_left
  · simp only [Act.put, List.setIfInBounds_toArray, List.set_cons_zero, List.set_cons_succ, i64_w, i32_w]
    rfl
  refine take_ (i := 6) (N := some 10) (v := ?_) (a' := ?_) #[false, true, true, true, true, true, true, false, false, false, false, false, false, false, false, false, false] rfl rfl (by kernel_rfl) (fun _ _ _ h => h) (Or.inl ⟨by rfl, ?_⟩) hHeld ?_ ?_
  rotate_left
  · intro w' s0
    go_simp
    with_reducible rfl
  rotate_left
  · simp only [Act.put, List.setIfInBounds_toArray, List.set_cons_zero, List.set_cons_succ, i64_w, i32_w]
    rfl
  refine pure_ (i := 7) (N := some 11) (v := ?_) (a' := ?_) #[false, true, true, true, true, true, true, true, false, false, false, false, false, false, false, false, false] rfl rfl (by kernel_rfl) (fun _ _ _ h => h) (Or.inl ⟨by rfl, ?_⟩) ?_ ?_
  rotate_left
  · intro w'
    go_simp
    with_reducible rfl
  rotate_left
  · simp only [Act.put, List.setIfInBounds_toArray, List.set_cons_zero, List.set_cons_succ, i64_w, i32_w]
    rfl
  refine take_ (i := 8) (N := some 12) (v := ?_) (a' := ?_) #[false, true, true, true, true, true, true, true, true, false, false, false, false, false, false, false, false] rfl rfl (by kernel_rfl) (fun _ _ _ h => h) (Or.inl ⟨by rfl, ?_⟩) hHeld ?_ ?_
  rotate_left
  · intro w' s0
    go_simp
    with_reducible rfl
  rotate_left
  · simp only [Act.put, List.setIfInBounds_toArray, List.set_cons_zero, List.set_cons_succ, i64_w, i32_w]
    rfl
  refine pure_ (i := 9) (N := some 13) (v := ?_) (a' := ?_) #[false, true, true, true, true, true, true, true, true, true, false, false, false, false, false, false, false] rfl rfl (by kernel_rfl) (fun _ _ _ h => h) (Or.inl ⟨by rfl, ?_⟩) ?_ ?_
  rotate_left
  · intro w'
    go_simp
    with_reducible rfl
  rotate_left
  · simp only [Act.put, List.setIfInBounds_toArray, List.set_cons_zero, List.set_cons_succ, i64_w, i32_w]
    rfl
  refine take_ (i := 10) (N := some 14) (v := ?_) (a' := ?_) #[false, true, true, true, true, true, true, true, true, true, true, false, false, false, false, false, false] rfl rfl (by kernel_rfl) (fun _ _ _ h => h) (Or.inl ⟨by rfl, ?_⟩) hHeld ?_ ?_
  rotate_left
  · intro w' s0
    go_simp
    with_reducible rfl
  rotate_left
  · simp only [Act.put, List.setIfInBounds_toArray, List.set_cons_zero, List.set_cons_succ, i64_w, i32_w]
    rfl
  refine pure_ (i := 11) (N := some 15) (v := ?_) (a' := ?_) #[false, true, true, true, true, true, true, true, true, true, true, true, false, false, false, false, false] rfl rfl (by kernel_rfl) (fun _ _ _ h => h) (Or.inl ⟨by rfl, ?_⟩) ?_ ?_
  rotate_left
  · intro w'
    go_simp
    with_reducible rfl
  rotate_left
  · simp only [Act.put, List.setIfInBounds_toArray, List.set_cons_zero, List.set_cons_succ, i64_w, i32_w]
    rfl
  refine one_ (i := 0) (N := some 4) #[true, true, true, true, true, true, true, true, true, true, true, true, false, false, false, false, false] rfl rfl (by kernel_rfl) (by decide) (fun K hK => ?_)
  refine goesV #[] Try.func23 (by kernel_rfl) rfl #[] (by rfl) rfl rfl rfl (by simp [Act.eval]) ?_
  refine Calls.mono (messages_ok _) ?_
  rintro e w2 ⟨tv, rfl, htab, hb2⟩
  have hbb : Below w.heap.size w w2 := by
    have h1 : Below w.heap.size w (w.alloc (.cells #[.int .i64 M.f0, .int .i64 M.f1, .string M.f2, .int .i64 M.f3, .slice B m c] 35)) := ba _
    exact h1.trans (Below.trans (Below.drew (Below.refl _ _)) (hb2.mono (by simp)))
  have hb3 : Blk w2 w.heap.size #[.int .i64 M.f0, .int .i64 M.f1, .string M.f2, .int .i64 M.f3, .slice B m c] 35 := (hb2.block w.heap.size (by simp)).trans hb0
  have hS2 : w2.cell? ⟨w.heap.size, 0, none⟩ = some (.int .i64 M.f0) ∧ w2.cell? ⟨w.heap.size, 1, none⟩ = some (.int .i64 M.f1) ∧ w2.cell? ⟨w.heap.size, 2, none⟩ = some (.string M.f2) ∧ w2.cell? ⟨w.heap.size, 3, none⟩ = some (.int .i64 M.f3) ∧ w2.cell? ⟨w.heap.size, 4, none⟩ = some (.slice B m c) := ⟨Blk.cell (i := 0) hb3 rfl, Blk.cell (i := 1) hb3 rfl, Blk.cell (i := 2) hb3 rfl, Blk.cell (i := 3) hb3 rfl, Blk.cell (i := 4) hb3 rfl⟩
  refine .inl ⟨_, rfl, ?_⟩
  refine hK.out _ _ hS2 (fun hHeld => ?_)
  clear hK K
  refine norm_ (a' := ?_) ?_ ?_
  rotate_left
  · show Act.put _ (some 4) _ = _
    simp only [Act.put, List.setIfInBounds_toArray, List.set_cons_zero, List.set_cons_succ, i64_w, i32_w]
    rfl
  refine last_ (i := 12) (N := some 16) #[true, true, true, true, true, true, true, true, true, true, true, true, true, false, false, false, false] rfl rfl (by kernel_rfl) (by decide) (fun K hK => ?_)
  refine goesV #[] Try.func27 (by kernel_rfl) rfl #[tv, .agg #[.int .i64 M.f0, .int .i64 M.f1, .int .i64 M.f3, .int .i64 0, .string M.f2, .slice B m c]] (by rfl) rfl rfl rfl (by simp [Act.eval]) ?_
  refine Calls.mono (encode_ok msgTab w2 _ _ m c tv B (fldM M) htab (Nat.le_refl _) msgTab_ok msgTab_len (BytesAt.below (B := 0) hx hbb) hbig) ?_
  rintro e w3 hpost
  have hp := enc_lift (w1 := w) hpost hbb
  obtain ⟨v, code, rfl, hbx, hcx⟩ := hp
  refine .inl ⟨_, rfl, ?_⟩
  refine hK.out _ _ ?_
  clear hK K
  refine norm_ (a' := ?_) ?_ ?_
  rotate_left
  · show Act.put _ (some 16) _ = _
    simp only [Act.put, List.setIfInBounds_toArray, List.set_cons_zero, List.set_cons_succ, i64_w, i32_w]
    rfl
  refine pure_ (i := 13) (N := some 17) (v := ?_) (a' := ?_) #[true, true, true, true, true, true, true, true, true, true, true, true, true, true, false, false, false] rfl rfl (by kernel_rfl) (fun _ _ _ h => h) (Or.inl ⟨by rfl, ?_⟩) ?_ ?_
  rotate_left
  · intro w'
    go_simp
    with_reducible rfl
  rotate_left
  · simp only [Act.put, List.setIfInBounds_toArray, List.set_cons_zero, List.set_cons_succ, i64_w, i32_w]
    rfl
  refine pure_ (i := 14) (N := some 18) (v := ?_) (a' := ?_) #[true, true, true, true, true, true, true, true, true, true, true, true, true, true, true, false, false] rfl rfl (by kernel_rfl) (fun _ _ _ h => h) (Or.inl ⟨by rfl, ?_⟩) ?_ ?_
  rotate_left
  · intro w'
    go_simp
    with_reducible rfl
  rotate_left
  · simp only [Act.put, List.setIfInBounds_toArray, List.set_cons_zero, List.set_cons_succ, i64_w, i32_w]
    rfl
  refine pure_ (i := 15) (N := some 2) (v := ?_) (a' := ?_) #[true, true, true, true, true, true, true, true, true, true, true, true, true, true, true, true, false] rfl rfl (by kernel_rfl) (fun _ _ _ h => h) (Or.inl ⟨by rfl, ?_⟩) ?_ ?_
  rotate_left
  · intro w'
    go_simp
    with_reducible rfl
  rotate_left
  · simp only [Act.put, List.setIfInBounds_toArray, List.set_cons_zero, List.set_cons_succ, i64_w, i32_w]
    rfl
  refine pure_ (i := 16) (N := some 3) (v := ?_) (a' := ?_) #[true, true, true, true, true, true, true, true, true, true, true, true, true, true, true, true, true] rfl rfl (by kernel_rfl) (fun _ _ _ h => h) (Or.inl ⟨by rfl, ?_⟩) ?_ ?_
  rotate_left
  · intro w'
    go_simp
    with_reducible rfl
  rotate_left
  · simp only [Act.put, List.setIfInBounds_toArray, List.set_cons_zero, List.set_cons_succ, i64_w, i32_w]
    rfl
  refine done_ (by kernel_rfl) ?_
  go_wp2
  go_ret2
  exact ⟨v, code, rfl, hbx, hcx⟩
set_option maxHeartbeats 2000000 in
set_option maxRecDepth 100000 in
theorem EncodeReply_ok (M : S44) (B : Option Addr) (m c : Nat) (w : World) (hx : BytesAt w B m M.f3) (hbig : m ≤ 1000000000) :
    Calls Try.prog 16 #[.agg #[.int .i64 M.f0, .int .i64 M.f1, .int .i64 M.f2, .slice B m c]] w (EncPost w (encS repTab (fldR M))) := by
  go_enter Try.func16, Try.ntmps16
  go_wp2_with fail
  have hb0 : Blk (w.alloc (.cells #[.int .i64 M.f0, .int .i64 M.f1, .int .i64 M.f2, .slice B m c] 44)) w.heap.size #[.int .i64 M.f0, .int .i64 M.f1, .int .i64 M.f2, .slice B m c] 44 := blkNew rfl
  refine start_ (n := 15) (S := fun w' => w'.cell? ⟨w.heap.size, 0, none⟩ = some (.int .i64 M.f0) ∧ w'.cell? ⟨w.heap.size, 1, none⟩ = some (.int .i64 M.f1) ∧ w'.cell? ⟨w.heap.size, 2, none⟩ = some (.int .i64 M.f2) ∧ w'.cell? ⟨w.heap.size, 3, none⟩ = some (.slice B m c)) (ds := [10]) #[false, false, false, false, false, false, false, false, false, false, false, false, false, false, false] (by kernel_rfl) rfl rfl ⟨Blk.cell (i := 0) hb0 rfl, Blk.cell (i := 1) hb0 rfl, Blk.cell (i := 2) hb0 rfl, Blk.cell (i := 3) hb0 rfl⟩ (fun hHeld => ?_)
  refine pure_ (i := 1) (N := some 5) (v := ?_) (a' := ?_) #[false, true, false, false, false, false, false, false, false, false, false, false, false, false, false] rfl rfl (by kernel_rfl) (fun _ _ _ h => h) (Or.inl ⟨by rfl, ?_⟩) ?_ ?_
  rotate_left
  · intro w'
    go_simp
    with_reducible rfl
  rotate_left
  · simp only [Act.put, List.setIfInBounds_toArray, List.set_cons_zero, List.set_cons_succ, i64_w, i32_w]
    rfl
  refine take_ (i := 2) (N := some 6) (v := ?_) (a' := ?_) #[false, true, true, false, false, false, false, false, false, false, false, false, false, false, false] rfl rfl (by kernel_rfl) (fun _ _ _ h => h) (Or.inl ⟨by rfl, ?_⟩) hHeld ?_ ?_
  rotate_left
  · intro w' s0
    go_simp
    with_reducible rfl
  rotate_left
  · simp only [Act.put, List.setIfInBounds_toArray, List.set_cons_zero, List.set_cons_succ, i64_w, i32_w]
    rfl
  refine pure_ (i := 3) (N := some 7) (v := ?_) (a' := ?_) #[false, true, true, true, false, false, false, false, false, false, false, false, false, false, false] rfl rfl (by kernel_rfl) (fun _ _ _ h => h) (Or.inl ⟨by rfl, ?_⟩) ?_ ?_
  rotate_left
  · intro w'
    go_simp
    with_reducible rfl
  rotate_left
  · simp only [Act.put, List.setIfInBounds_toArray, List.set_cons_zero, List.set_cons_succ, i64_w, i32_w]
    rfl
  refine take_ (i := 4) (N := some 8) (v := ?_) (a' := ?_) #[false, true, true, true, true, false, false, false, false, false, false, false, false, false, false] rfl rfl (by kernel_rfl) (fun _ _ _ h => h) (Or.inl ⟨by rfl, ?_⟩) hHeld ?_ ?_
  rotate_left
  · intro w' s0
    go_simp
    with_reducible rfl
  rotate_left
  · simp only [Act.put, List.setIfInBounds_toArray, List.set_cons_zero, List.set_cons_succ, i64_w, i32_w]
    rfl
  refine pure_ (i := 5) (N := some 9) (v := ?_) (a' := ?_) #[false, true, true, true, true, true, false, false, false, false, false, false, false, false, false] rfl rfl (by kernel_rfl) (fun _ _ _ h => h) (Or.inl ⟨by rfl, ?_⟩) ?_ ?_
  rotate_left
  · intro w'
    go_simp
    with_reducible rfl
  rotate_left
  · simp only [Act.put, List.setIfInBounds_toArray, List.set_cons_zero, List.set_cons_succ, i64_w, i32_w]
    rfl
  refine take_ (i := 6) (N := some 10) (v := ?_) (a' := ?_) #[false, true, true, true, true, true, true, false, false, false, false, false, false, false, false] rfl rfl (by kernel_rfl) (fun _ _ _ h => h) (Or.inl ⟨by rfl, ?_⟩) hHeld ?_ ?_
  rotate_left
  · intro w' s0
    go_simp
    with_reducible rfl
  rotate_left
  · simp only [Act.put, List.setIfInBounds_toArray, List.set_cons_zero, List.set_cons_succ, i64_w, i32_w]
    rfl
  refine pure_ (i := 7) (N := some 11) (v := ?_) (a' := ?_) #[false, true, true, true, true, true, true, true, false, false, false, false, false, false, false] rfl rfl (by kernel_rfl) (fun _ _ _ h => h) (Or.inl ⟨by rfl, ?_⟩) ?_ ?_
  rotate_left
  · intro w'
    go_simp
    with_reducible rfl
  rotate_left
  · simp only [Act.put, List.setIfInBounds_toArray, List.set_cons_zero, List.set_cons_succ, i64_w, i32_w]
    rfl
  refine take_ (i := 8) (N := some 12) (v := ?_) (a' := ?_) #[false, true, true, true, true, true, true, true, true, false, false, false, false, false, false] rfl rfl (by kernel_rfl) (fun _ _ _ h => h) (Or.inl ⟨by rfl, ?_⟩) hHeld ?_ ?_
  rotate_left
  · intro w' s0
    go_simp
    with_reducible rfl
  rotate_left
  · simp only [Act.put, List.setIfInBounds_toArray, List.set_cons_zero, List.set_cons_succ, i64_w, i32_w]
    rfl
  refine pure_ (i := 9) (N := some 13) (v := ?_) (a' := ?_) #[false, true, true, true, true, true, true, true, true, true, false, false, false, false, false] rfl rfl (by kernel_rfl) (fun _ _ _ h => h) (Or.inl ⟨by rfl, ?_⟩) ?_ ?_
  rotate_left
  · intro w'
    go_simp
    with_reducible rfl
  rotate_left
  · simp only [Act.put, List.setIfInBounds_toArray, List.set_cons_zero, List.set_cons_succ, i64_w, i32_w]
    rfl
  refine one_ (i := 0) (N := some 4) #[true, true, true, true, true, true, true, true, true, true, false, false, false, false, false] rfl rfl (by kernel_rfl) (by decide) (fun K hK => ?_)
  refine goesV #[] Try.func28 (by kernel_rfl) rfl #[] (by rfl) rfl rfl rfl (by simp [Act.eval]) ?_
  refine Calls.mono (replies_ok _) ?_
  rintro e w2 ⟨tv, rfl, htab, hb2⟩
  have hbb : Below w.heap.size w w2 := by
    have h1 : Below w.heap.size w (w.alloc (.cells #[.int .i64 M.f0, .int .i64 M.f1, .int .i64 M.f2, .slice B m c] 44)) := ba _
    exact h1.trans (Below.trans (Below.drew (Below.refl _ _)) (hb2.mono (by simp)))
  have hb3 : Blk w2 w.heap.size #[.int .i64 M.f0, .int .i64 M.f1, .int .i64 M.f2, .slice B m c] 44 := (hb2.block w.heap.size (by simp)).trans hb0
  have hS2 : w2.cell? ⟨w.heap.size, 0, none⟩ = some (.int .i64 M.f0) ∧ w2.cell? ⟨w.heap.size, 1, none⟩ = some (.int .i64 M.f1) ∧ w2.cell? ⟨w.heap.size, 2, none⟩ = some (.int .i64 M.f2) ∧ w2.cell? ⟨w.heap.size, 3, none⟩ = some (.slice B m c) := ⟨Blk.cell (i := 0) hb3 rfl, Blk.cell (i := 1) hb3 rfl, Blk.cell (i := 2) hb3 rfl, Blk.cell (i := 3) hb3 rfl⟩
  refine .inl ⟨_, rfl, ?_⟩
  refine hK.out _ _ hS2 (fun hHeld => ?_)
  clear hK K
  refine norm_ (a' := ?_) ?_ ?_
  rotate_left
  · show Act.put _ (some 4) _ = _
    simp only [Act.put, List.setIfInBounds_toArray, List.set_cons_zero, List.set_cons_succ, i64_w, i32_w]
    rfl
  refine last_ (i := 10) (N := some 14) #[true, true, true, true, true, true, true, true, true, true, true, false, false, false, false] rfl rfl (by kernel_rfl) (by decide) (fun K hK => ?_)
  refine goesV #[] Try.func27 (by kernel_rfl) rfl #[tv, .agg #[.int .i64 M.f0, .int .i64 0, .int .i64 M.f1, .int .i64 M.f2, .string ⟨#[]⟩, .slice B m c]] (by rfl) rfl rfl rfl (by simp [Act.eval]) ?_
  refine Calls.mono (encode_ok repTab w2 _ _ m c tv B (fldR M) htab (Nat.le_refl _) repTab_ok repTab_len (BytesAt.below (B := 0) hx hbb) hbig) ?_
  rintro e w3 hpost
  have hp := enc_lift (w1 := w) hpost hbb
  obtain ⟨v, code, rfl, hbx, hcx⟩ := hp
  refine .inl ⟨_, rfl, ?_⟩
  refine hK.out _ _ ?_
  clear hK K
  refine norm_ (a' := ?_) ?_ ?_
  rotate_left
  · show Act.put _ (some 14) _ = _
    simp only [Act.put, List.setIfInBounds_toArray, List.set_cons_zero, List.set_cons_succ, i64_w, i32_w]
    rfl
  refine pure_ (i := 11) (N := some 15) (v := ?_) (a' := ?_) #[true, true, true, true, true, true, true, true, true, true, true, true, false, false, false] rfl rfl (by kernel_rfl) (fun _ _ _ h => h) (Or.inl ⟨by rfl, ?_⟩) ?_ ?_
  rotate_left
  · intro w'
    go_simp
    with_reducible rfl
  rotate_left
  · simp only [Act.put, List.setIfInBounds_toArray, List.set_cons_zero, List.set_cons_succ, i64_w, i32_w]
    rfl
  refine pure_ (i := 12) (N := some 16) (v := ?_) (a' := ?_) #[true, true, true, true, true, true, true, true, true, true, true, true, true, false, false] rfl rfl (by kernel_rfl) (fun _ _ _ h => h) (Or.inl ⟨by rfl, ?_⟩) ?_ ?_
  rotate_left
  · intro w'
    go_simp
    with_reducible rfl
  rotate_left
  · simp only [Act.put, List.setIfInBounds_toArray, List.set_cons_zero, List.set_cons_succ, i64_w, i32_w]
    rfl
  refine pure_ (i := 13) (N := some 2) (v := ?_) (a' := ?_) #[true, true, true, true, true, true, true, true, true, true, true, true, true, true, false] rfl rfl (by kernel_rfl) (fun _ _ _ h => h) (Or.inl ⟨by rfl, ?_⟩) ?_ ?_
  rotate_left
  · intro w'
    go_simp
    with_reducible rfl
  rotate_left
  · simp only [Act.put, List.setIfInBounds_toArray, List.set_cons_zero, List.set_cons_succ, i64_w, i32_w]
    rfl
  refine pure_ (i := 14) (N := some 3) (v := ?_) (a' := ?_) #[true, true, true, true, true, true, true, true, true, true, true, true, true, true, true] rfl rfl (by kernel_rfl) (fun _ _ _ h => h) (Or.inl ⟨by rfl, ?_⟩) ?_ ?_
  rotate_left
  · intro w'
    go_simp
    with_reducible rfl
  rotate_left
  · simp only [Act.put, List.setIfInBounds_toArray, List.set_cons_zero, List.set_cons_succ, i64_w, i32_w]
    rfl
  refine done_ (by kernel_rfl) ?_
  go_wp2
  go_ret2
  exact ⟨v, code, rfl, hbx, hcx⟩
theorem new_ok (w : World) : Calls Try.prog 9 #[] w fun e w' => e = .returned (pt w.heap.size) ∧ w.alloc (.cells #[.slice none 0 0, .bool false] 67) = w' := by
  go_enter Try.func9, Try.ntmps9
  go_wp2_with fail
  go_ret
  exact ⟨rfl, rfl⟩
theorem poisoned_ok (w : World) (g : Nat) (v : Value) (b : Bool) (h : Blk w g #[v, .bool b] 67) : Calls Try.prog 12 #[pt g] w fun e w' => e = .returned (.bool b) ∧ w = w' := by
  have h1 : w.cell? ⟨g, 1, none⟩ = some (.bool b) := Blk.cell (i := 1) h rfl
  go_enter Try.func12, Try.ntmps12
  go_wp2_with fail
  go_ret
  exact ⟨rfl, rfl⟩
theorem waiting_ok (w : World) (g : Nat) (A : Option Addr) (n c : Nat) (x : Value) (h : Blk w g #[.slice A n c, x] 67) : Calls Try.prog 13 #[pt g] w fun e w' => e = .returned (.int .i64 n) ∧ w = w' := by
  have h1 : w.cell? ⟨g, 0, none⟩ = some (.slice A n c) := Blk.cell (i := 0) h rfl
  go_enter Try.func13, Try.ntmps13
  go_wp2_with fail
  go_ret
  exact ⟨rfl, rfl⟩
end Go.Proofs.Ytpflenaoplblkaa.ProR
