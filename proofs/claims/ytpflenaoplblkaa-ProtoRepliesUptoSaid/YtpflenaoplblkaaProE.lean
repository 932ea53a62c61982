import Derived.Test.YtpflenaoplblkaaProD
namespace Go.Proofs.Ytpflenaoplblkaa.ProE
open Go.RowKit Go.Proofs.YtpflenaoplblkaaW.PrintWords Go.Proofs.YtpflenaoplblkaaW.PrintLast Go.Proofs.Ytpflenaoplblkaa.ProA Go.Proofs.Ytpflenaoplblkaa.ProB Go.Proofs.Ytpflenaoplblkaa.ProC Go.Proofs.Ytpflenaoplblkaa.ProI Go.Proofs.Ytpflenaoplblkaa.ProD
set_option linter.unusedVariables false
set_option linter.unusedSimpArgs false
theorem rbytes_ok' (g : Nat) (A : Option Addr) (n c k : Nat) (kk : Int) (w : World) (h : RdAt w g A n c) (hk : k ≤ n) (hc : n ≤ c) (hkk : kk = (k : Int)) :
    Calls Try.prog 68 #[pt g, .int .i64 kk] w fun e w' => e = .returned (.slice A k c) ∧ w.setCell ⟨g, 0, none⟩ (.slice (adv A c k) (n - k) (c - k)) = w' := by
  subst hkk
  exact rbytes_ok g A n c k w h hk hc
theorem BytesAt.take {w : World} {A : Option Addr} {n : Nat} {xs : List Int} (h : BytesAt w A n xs) (i : Nat) (hi : i ≤ n) : BytesAt w A i (xs.take i) :=
  Kd.C_of_reads ((Kd.reads_of_C (enc := Value.int .u8) (d := (0 : Int)) (h1 := fun _ => rfl) h).take_ i hi)
theorem BytesAt.drop {w : World} {A : Option Addr} {n c : Nat} {xs : List Int} (h : BytesAt w A n xs) (i : Nat) (hi : i ≤ n) (hc : n ≤ c) : BytesAt w (adv A c i) (n - i) (xs.drop i) :=
  Kd.C_of_reads ((Kd.reads_of_C (enc := Value.int .u8) (d := (0 : Int)) (h1 := fun _ => rfl) h).drop_ i hi hc)
theorem adv_ne {A : Option Addr} {c k g : Nat} (h : ∀ a, A = some a → a.block ≠ g) : ∀ a, adv A c k = some a → a.block ≠ g := by
  intro a ha
  unfold adv at ha
  split at ha
  · exact h a ha
  · cases A with
    | none => simp at ha
    | some b =>
      simp only [Option.map_some, Option.some.injEq] at ha
      subst ha
      have := h b rfl
      unfold Addr.add
      split
      · exact this
      · exact this
theorem be_one {xs : List Int} (h : u8s xs) (hl : 1 ≤ xs.length) : be (xs.take 1) = rd xs 0 := by
  cases xs with
  | nil => simp at hl
  | cons x l => simp [be, rd]
set_option maxHeartbeats 2000000 in
set_option maxRecDepth 100000 in
theorem nread_ok (g f : Nat) (A : Option Addr) (n c l : Nat) (w : World) (xs : List Int) (F : Flds) (dv : Value)
    (h : RdAt w g A n c) (hf : FdAt w f F dv) (hx : BytesAt w A n xs) (hu : u8s xs) (hg : ∀ a, A = some a → a.block ≠ g) (hc : n ≤ c) (hgf : f ≠ g)
    (h1 : 1 ≤ n) (hl : be (xs.take 1) = (l : Int)) (h2 : 1 + l ≤ n) :
    Calls Try.prog 67 #[pt g, pt f] w fun e w' =>
      e = .returned (.tuple #[]) ∧ RdAt w' g (adv (adv A c 1) (c - 1) l) (n - 1 - l) (c - 1 - l) ∧ FdAt w' f { F with name := strOfNums ((xs.drop 1).take l) } dv ∧ Tu [g, f] w w' := by
  have hv1 : (F.cells dv)[4]? = some (.string F.name) := rfl
  go_enter Try.func67, Try.ntmps67
  go_wp2_with (first
    | (go_at_call 45; refine Calls.mono (rnumber_ok g A n c 1 _ xs h hx hu (fun a ha _ => hg a ha) h1 (by omega) hc) ?_; rintro e w2 ⟨rfl, hw2⟩; have hb2 : FdAt w2 f F dv := (by rw [← hw2]; exact Blk.other hf hgf _); have hg2 : RdAt w2 g (adv A c 1) (n - 1) (c - 1) := (by rw [← hw2]; exact Blk.set (i := 0) h _); have ht2 : Tu [g] w w2 := (by rw [← hw2]; exact (Tu.refl _ _).setCell (.inl (by simp)) _); clear hw2)
    | (go_at_call 68; refine Calls.mono (rbytes_ok' g _ _ _ l _ _ hg2 (by omega) (by omega) (by first | rfl | exact hl)) ?_; rintro e w3 ⟨rfl, hw3⟩; have hb3 : FdAt w3 f F dv := (by rw [← hw3]; exact Blk.other hb2 hgf _); have hg3 : RdAt w3 g (adv (adv A c 1) (c - 1) l) (n - 1 - l) (c - 1 - l) := (by rw [← hw3]; exact Blk.set (i := 0) hg2 _); have ht3 : Tu [g] w w3 := (by rw [← hw3]; exact ht2.setCell (.inl (by simp)) _); clear hw3; have hcv : (convert 22 9 (.slice (adv A c 1) l (c - 1))).run Try.prog w3 = .ok (.string (strOfNums ((xs.drop 1).take l))) w3 := Kd.C_string Try.underlying22 Try.underlying5 Try.underlying9 (BytesAt.tu (BytesAt.take (BytesAt.drop hx 1 h1 hc) l (by omega)) ht3 (fun a ha _ hm => adv_ne hg a ha (by simpa using hm))); have hc3 := Blk.cell hb3 hv1; have hz3 := Blk.frozen (i := 4) hb3))
  go_end0
  simp only [← List.drop_one]
  exact ⟨by first | rfl | trivial, Blk.other hg3 (Ne.symm hgf) _, Blk.set (i := 4) hb3 _, (ht3.mono (fun i hi => .inl (by simp at hi ⊢; exact .inl hi))).setCell (.inl (by simp)) _⟩
set_option maxHeartbeats 2000000 in
set_option maxRecDepth 100000 in
theorem nread_no1 (g f : Nat) (A : Option Addr) (n c : Nat) (w : World) (h : RdAt w g A n c) (h1 : n < 1) :
    Calls Try.prog 67 #[pt g, pt f] w fun e w' => e = wrong 121 ∧ Tu [g] w w' := by
  go_enter Try.func67, Try.ntmps67
  go_wp2_with (go_at_call 45; refine Calls.mono (rnumber_no g A n c 1 _ h h1) ?_; rintro e w2 ⟨rfl, rfl⟩)
  exact ⟨rfl, rfl, Tu.refl _ _⟩
set_option maxHeartbeats 2000000 in
set_option maxRecDepth 100000 in
theorem nread_no2 (g f : Nat) (A : Option Addr) (n c l : Nat) (w : World) (xs : List Int)
    (h : RdAt w g A n c) (hx : BytesAt w A n xs) (hu : u8s xs) (hg : ∀ a, A = some a → a.block ≠ g) (hc : n ≤ c)
    (h1 : 1 ≤ n) (hl : be (xs.take 1) = (l : Int)) (h2 : n < 1 + l) :
    Calls Try.prog 67 #[pt g, pt f] w fun e w' => e = wrong 121 ∧ Tu [g] w w' := by
  go_enter Try.func67, Try.ntmps67
  go_wp2_with (first
    | (go_at_call 45; refine Calls.mono (rnumber_ok g A n c 1 _ xs h hx hu (fun a ha _ => hg a ha) h1 (by omega) hc) ?_; rintro e w2 ⟨rfl, hw2⟩; have hg2 : RdAt w2 g (adv A c 1) (n - 1) (c - 1) := (by rw [← hw2]; exact Blk.set (i := 0) h _); have ht2 : Tu [g] w w2 := (by rw [← hw2]; exact (Tu.refl _ _).setCell (.inl (by simp)) _); clear hw2)
    | (go_at_call 68; refine Calls.mono (rbytes_no g _ _ _ _ _ hg2 (by first | omega | (rw [hl]; omega))) ?_; rintro e w3 ⟨rfl, rfl⟩))
  exact ⟨rfl, rfl, ht2⟩
theorem nfits (f : Nat) (w : World) (F : Flds) (dv : Value) (hf : FdAt w f F dv) :
    Calls Try.prog 69 #[pt f] w fun e w' => e = .returned (.bool (nameOk F.name)) ∧ Below w.heap.size w w' := by
  have hv1 : w.cell? ⟨f, 4, none⟩ = some (.string F.name) := Blk.cell (i := 4) hf rfl
  go_enter Try.func69, Try.ntmps69
  go_wp2_with (go_at_call 70; refine Calls.mono (isName_any _ _) ?_; rintro e w2 ⟨rfl, hb⟩)
  go_ret
  exact ⟨rfl, hb⟩
theorem nclear (f : Nat) (w : World) (F : Flds) (dv : Value) (hf : FdAt w f F dv) :
    Calls Try.prog 72 #[pt f] w fun e w' => e = .returned (.tuple #[]) ∧ FdAt w' f { F with name := ByteArray.empty } dv ∧ Tu [f] w w' := by
  have hv1 : w.cell? ⟨f, 4, none⟩ = some (.string F.name) := Blk.cell (i := 4) hf rfl
  have hz2 := Blk.frozen (i := 4) hf
  go_enter Try.func72, Try.ntmps72
  go_wp2
  go_end0
  exact ⟨rfl, Blk.set (i := 4) hf _, (Tu.refl _ _).setCell (.inl (by simp)) _⟩
theorem bclear (f : Nat) (w : World) (F : Flds) (dv : Value) (hf : FdAt w f F dv) :
    Calls Try.prog 76 #[pt f] w fun e w' => e = .returned (.tuple #[]) ∧ FdAt w' f { F with data := [] } (.slice none 0 0) ∧ Tu [f] w w' := by
  have hv1 : w.cell? ⟨f, 5, none⟩ = some dv := Blk.cell (i := 5) hf rfl
  have hz2 := Blk.frozen (i := 5) hf
  go_enter Try.func76, Try.ntmps76
  go_wp2
  go_end0
  exact ⟨rfl, Blk.set (i := 5) hf _, (Tu.refl _ _).setCell (.inl (by simp)) _⟩
theorem bfits (f a : Nat) (hi : Int) (w : World) (F : Flds) (A : Option Addr) (n c : Nat) (hf : FdAt w f F (.slice A n c)) (ha : Blk w a #[.int .i64 hi] 3) :
    Calls Try.prog 74 #[pt f, pt a] w fun e w' => e = .returned (.bool (decide ((n : Int) ≤ hi))) ∧ ∃ nq, w' = w.drewN nq := by
  have hv1 : w.cell? ⟨f, 5, none⟩ = some (.slice A n c) := Blk.cell (i := 5) hf rfl
  have h1 : w.cell? ⟨a, 0, none⟩ = some (.int .i64 hi) := Blk.cell (i := 0) ha rfl
  go_enter Try.func74, Try.ntmps74
  go_wp2_with fail
  go_quiet (fail)
  go_wp2
  go_ret
  exact ⟨rfl, _, rfl⟩
set_option maxHeartbeats 2000000 in
set_option maxRecDepth 100000 in
theorem bread_ok (g f : Nat) (A : Option Addr) (n c l : Nat) (w : World) (xs : List Int) (F : Flds) (dv : Value)
    (h : RdAt w g A n c) (hf : FdAt w f F dv) (hx : BytesAt w A n xs) (hu : u8s xs) (hg : ∀ a, A = some a → a.block ≠ g) (hc : n ≤ c) (hgf : f ≠ g)
    (h1 : 4 ≤ n) (hl : be (xs.take 4) = (l : Int)) (h2 : 4 + l ≤ n) (hbig : l ≤ 140737488350000) :
    Calls Try.prog 73 #[pt g, pt f] w fun e w' => ∃ dv',
      e = .returned (.tuple #[]) ∧ RdAt w' g (adv (adv A c 4) (c - 4) l) (n - 4 - l) (c - 4 - l) ∧ FdAt w' f { F with data := (xs.drop 4).take l } dv' ∧ Own w' w.heap.size (okS [] w) dv' ((xs.drop 4).take l) ∧ Tu [g, f] w w' := by
  have hv1 : (F.cells dv)[5]? = some dv := rfl
  have hlx := BytesAt.len hx
  have hlen0 : ([] ++ (xs.drop 4).take l).length = l := by simp; omega
  go_enter Try.func73, Try.ntmps73
  go_wp2_with (first
    | (go_at_call 45; refine Calls.mono (rnumber_ok g A n c 4 _ xs h hx hu (fun a ha _ => hg a ha) h1 (by omega) hc) ?_; rintro e w2 ⟨rfl, hw2⟩; have hb2 : FdAt w2 f F dv := (by rw [← hw2]; exact Blk.other hf hgf _); have hg2 : RdAt w2 g (adv A c 4) (n - 4) (c - 4) := (by rw [← hw2]; exact Blk.set (i := 0) h _); have ht2 : Tu [g] w w2 := (by rw [← hw2]; exact (Tu.refl _ _).setCell (.inl (by simp)) _); clear hw2)
    | (go_at_call 68; refine Calls.mono (rbytes_ok' g _ _ _ l _ _ hg2 (by omega) (by omega) (by first | rfl | exact hl)) ?_; rintro e w3 ⟨rfl, hw3⟩; have hb3 : FdAt w3 f F dv := (by rw [← hw3]; exact Blk.other hb2 hgf _); have hg3 : RdAt w3 g (adv (adv A c 4) (c - 4) l) (n - 4 - l) (c - 4 - l) := (by rw [← hw3]; exact Blk.set (i := 0) hg2 _); have ht3 : Tu [g] w w3 := (by rw [← hw3]; exact ht2.setCell (.inl (by simp)) _); clear hw3; have hx3 : BytesAt w3 (adv A c 4) l ((xs.drop 4).take l) := BytesAt.tu (BytesAt.take (BytesAt.drop hx 4 h1 hc) l (by omega)) ht3 (fun a ha _ hm => adv_ne hg a ha (by simpa using hm)))
    | ((with_reducible refine gate_builtin (b := .append) (xs := #[.const (.slice none 0 0), .tmp 8]) rfl ?_); at_builtin; refine Kd.R_append_rows (Kd.int .u8) (Rr := (Kd.int .u8).K w3) (w0 := w3) w3.heap.size rfl (.const (.slice none 0 0)) (.tmp 8) 22 5 (.int .u8 0) 1 rfl Try.underlying22 info5 rfl (by decide) (by omega) (.slice none 0 0) [] ((xs.drop 4).take l) (adv A c 4) l (c - 4) (okS [] w3) (fun _ => False) rfl rfl (Kd.R_nil _ _ _ _ _) hx3 (fun _ _ hh => hh) (fun _ hk => hk.elim) (fun q hq => .inr hq) (Below.refl _ _) (Nat.le_refl _) ?aL ?_; (case aL => simp only [List.length_nil]; omega); intro v1 w4 ho hb1 hg4 hat; obtain ⟨A1, c1, hv⟩ := Kd.R_slice ho; rw [hlen0] at hv; subst hv; have hn : (Value.slice none 0 0).ownBlock = none := rfl; have ht4 : Tu [g] w w4 := ht3.grown hg4 (fun q hq => by simp [Value.ownBlock] at hq); have hb4 : FdAt w4 f F dv := (hg4.block f hb3.lt (by simp [Value.ownBlock])).trans hb3; have hg5 : RdAt w4 g (adv (adv A c 4) (c - 4) l) (n - 4 - l) (c - 4 - l) := (hg4.block g hg3.lt (by simp [Value.ownBlock])).trans hg3; have hc4 := Blk.cell hb4 hv1; have hz4 := Blk.frozen (i := 5) hb4; have HO := Lib.hid ho; have hnf : ∀ k, okS [] w3 k → k ≠ f := (fun k hk => by have := hb3.lt; rcases hk with hk | hk; simp at hk; omega); have hmono : ∀ k, okS [] w3 k → okS [] w k := (fun k hk => by have := ht3.size; rcases hk with hk | hk; simp at hk; exact .inr (by omega)); clear ho))
  go_end0
  exact ⟨_, rfl, Blk.other hg5 (Ne.symm hgf) _, Blk.set (i := 5) hb4 _, Kd.R_mono (Kd.R_lower (Kd.R_far HO.out (p := ⟨f, 5, none⟩) hnf _) ht3.size) hmono, (ht4.mono (fun i hi => .inl (by simp at hi ⊢; exact .inl hi))).setCell (.inl (by simp)) _⟩
end Go.Proofs.Ytpflenaoplblkaa.ProE
