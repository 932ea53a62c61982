import Derived.Test.YtpflenaoplblkaaProJ
namespace Go.Proofs.Ytpflenaoplblkaa.ProK
open Go.RowKit Go.Proofs.YtpflenaoplblkaaW.PrintWords Go.Proofs.YtpflenaoplblkaaW.PrintLast Go.Proofs.Ytpflenaoplblkaa.ProA Go.Proofs.Ytpflenaoplblkaa.ProB Go.Proofs.Ytpflenaoplblkaa.ProC Go.Proofs.Ytpflenaoplblkaa.ProI Go.Proofs.Ytpflenaoplblkaa.ProD Go.Proofs.Ytpflenaoplblkaa.ProE Go.Proofs.Ytpflenaoplblkaa.ProF Go.Proofs.Ytpflenaoplblkaa.ProG Go.Proofs.Ytpflenaoplblkaa.ProH Go.Proofs.Ytpflenaoplblkaa.ProJ
set_option linter.unusedVariables false
set_option linter.unusedSimpArgs false
theorem below_drewN' (w : World) : ∀ n, Below w.heap.size w (w.drewN n)
  | 0 => Below.refl _ _
  | n + 1 => (below_drewN' w n).drew
set_option maxHeartbeats 1000000 in
theorem part_fits (p : PS) (w : World) (lo hi f : Nat) (f0 f1 f2 f3 : Value) (B : Option Addr) (m c : Nat) (F : Flds)
    (hp : PartAt w lo hi (.agg #[f0, f1, f2, f3]) p) (hf : FdAt w f F (.slice B m c)) (hm : F.data.length = m) :
    FCalls Try.prog f1 #[pt f] w (fun e w' => e = .returned (.bool (fitsS p F)) ∧ Below w.heap.size w w') := by
  cases p with
  | num o k l h =>
    obtain ⟨a4, a5, a6, a7, hv, _, b1, b2, b3, b4⟩ := hp
    simp only [Value.agg.injEq, Array.mk.injEq, List.cons.injEq, and_true] at hv
    obtain ⟨rfl, rfl, rfl, rfl⟩ := hv
    cases o
    · exact FCalls.of Try.func64 (by kernel_rfl) rfl (Calls.mono (fits_tenant f a7 a5 a6 l h w F _ hf b2 b3 b4) (fun e w' ⟨h1, n, h2⟩ => ⟨h1, h2 ▸ below_drewN' w n⟩)) rfl
    · exact FCalls.of Try.func64 (by kernel_rfl) rfl (Calls.mono (fits_n f a7 a5 a6 l h w F _ hf b2 b3 b4) (fun e w' ⟨h1, n, h2⟩ => ⟨h1, h2 ▸ below_drewN' w n⟩)) rfl
    · exact FCalls.of Try.func64 (by kernel_rfl) rfl (Calls.mono (fits_m f a7 a5 a6 l h w F _ hf b2 b3 b4) (fun e w' ⟨h1, n, h2⟩ => ⟨h1, h2 ▸ below_drewN' w n⟩)) rfl
  | name =>
    have hv : Value.agg #[f0, f1, f2, f3] = _ := hp
    simp only [Value.agg.injEq, Array.mk.injEq, List.cons.injEq, and_true] at hv
    obtain ⟨rfl, rfl, rfl, rfl⟩ := hv
    exact FCalls.of Try.func69 (by kernel_rfl) rfl (nfits f w F _ hf) rfl
  | blob h =>
    obtain ⟨a, hv, _, b1⟩ := hp
    simp only [Value.agg.injEq, Array.mk.injEq, List.cons.injEq, and_true] at hv
    obtain ⟨rfl, rfl, rfl, rfl⟩ := hv
    exact FCalls.of Try.func74 (by kernel_rfl) rfl (Calls.mono (bfits f a h w F B m c hf b1) (fun e w' ⟨h1, n, h2⟩ => ⟨by rw [h1]; simp only [fitsS]; rw [hm], h2 ▸ below_drewN' w n⟩)) rfl
set_option maxHeartbeats 1000000 in
theorem part_write (p : PS) (w : World) (lo hi base f : Nat) (S : List Nat) (f0 f1 f2 f3 v : Value) (B : Option Addr) (m c : Nat) (xs : List Int) (F : Flds)
    (hp : PartAt w lo hi (.agg #[f0, f1, f2, f3]) p) (hs : psmall p) (hf : FdAt w f F (.slice B m c)) (hx : BytesAt w B m F.data) (hB : ∀ a, B = some a → 0 < m → a.block ∉ S) (hfS : f ∉ S)
    (hR : Own w base (okS S w) v xs) (hbs : base ≤ w.heap.size) (hl : xs.length ≤ 1407374883500) (hm : m ≤ 1407374883500) (hfit : fitsS p F = true) :
    FCalls Try.prog f2 #[v, pt f] w (fun e w' => ∃ v', e = .returned v' ∧ Own w' base (okS S w) v' (xs ++ wrS p F) ∧ Tu S w w' ∧ Below base w w') := by
  cases p with
  | num o k l h =>
    obtain ⟨a4, a5, a6, a7, hv, _, b1, b2, b3, b4⟩ := hp
    simp only [Value.agg.injEq, Array.mk.injEq, List.cons.injEq, and_true] at hv
    obtain ⟨rfl, rfl, rfl, rfl⟩ := hv
    obtain ⟨hk1, hk4, hl0⟩ := hs
    have h0 : 0 ≤ Fget F o := by
      simp only [fitsS, Bool.and_eq_true, decide_eq_true_eq] at hfit
      omega
    cases o
    · exact FCalls.of Try.func65 (by kernel_rfl) rfl (write_tenant base S f a4 a7 k v xs w F _ hf b1 b4 hR hbs h0 hk1 hk4 (by omega)) rfl
    · exact FCalls.of Try.func65 (by kernel_rfl) rfl (write_n base S f a4 a7 k v xs w F _ hf b1 b4 hR hbs h0 hk1 hk4 (by omega)) rfl
    · exact FCalls.of Try.func65 (by kernel_rfl) rfl (write_m base S f a4 a7 k v xs w F _ hf b1 b4 hR hbs h0 hk1 hk4 (by omega)) rfl
  | name =>
    have hv : Value.agg #[f0, f1, f2, f3] = _ := hp
    simp only [Value.agg.injEq, Array.mk.injEq, List.cons.injEq, and_true] at hv
    obtain ⟨rfl, rfl, rfl, rfl⟩ := hv
    have hsz : F.name.size ≤ 1000000 := by
      simp only [fitsS, nameOk, Bool.and_eq_true, decide_eq_true_eq] at hfit
      omega
    exact FCalls.of Try.func71 (by kernel_rfl) rfl (nwrite base S f v xs w F _ hf hsz hfS hR hbs hl) rfl
  | blob h =>
    obtain ⟨a, hv, _, b1⟩ := hp
    simp only [Value.agg.injEq, Array.mk.injEq, List.cons.injEq, and_true] at hv
    obtain ⟨rfl, rfl, rfl, rfl⟩ := hv
    have hl := BytesAt.len hx
    refine FCalls.of Try.func75 (by kernel_rfl) rfl (Calls.mono (bwrite base S f v xs w F B m c hf hx hB hm hfS hR hbs (by omega)) ?_) rfl
    rintro e w' ⟨v', h1, h2, h3⟩
    exact ⟨v', h1, by simp only [wrS]; rw [hl]; exact h2, h3⟩
set_option maxHeartbeats 1000000 in
theorem part_clear (p : PS) (w : World) (lo hi f : Nat) (f0 f1 f2 f3 dv : Value) (F : Flds)
    (hp : PartAt w lo hi (.agg #[f0, f1, f2, f3]) p) (hf : FdAt w f F dv) :
    FCalls Try.prog f3 #[pt f] w (fun e w' => ∃ dv', e = .returned (.tuple #[]) ∧ FdAt w' f (clS p F) dv' ∧ (dv' = dv ∧ (clS p F).data = F.data ∨ dv' = .slice none 0 0 ∧ (clS p F).data = []) ∧ Tu [f] w w') := by
  cases p with
  | num o k l h =>
    obtain ⟨a4, a5, a6, a7, hv, _, b1, b2, b3, b4⟩ := hp
    simp only [Value.agg.injEq, Array.mk.injEq, List.cons.injEq, and_true] at hv
    obtain ⟨rfl, rfl, rfl, rfl⟩ := hv
    cases o
    · exact FCalls.of Try.func66 (by kernel_rfl) rfl (Calls.mono (clear_tenant f a7 w F dv hf b4) (fun e w' ⟨h1, h2, h3⟩ => ⟨dv, h1, h2, .inl ⟨rfl, rfl⟩, h3⟩)) rfl
    · exact FCalls.of Try.func66 (by kernel_rfl) rfl (Calls.mono (clear_n f a7 w F dv hf b4) (fun e w' ⟨h1, h2, h3⟩ => ⟨dv, h1, h2, .inl ⟨rfl, rfl⟩, h3⟩)) rfl
    · exact FCalls.of Try.func66 (by kernel_rfl) rfl (Calls.mono (clear_m f a7 w F dv hf b4) (fun e w' ⟨h1, h2, h3⟩ => ⟨dv, h1, h2, .inl ⟨rfl, rfl⟩, h3⟩)) rfl
  | name =>
    have hv : Value.agg #[f0, f1, f2, f3] = _ := hp
    simp only [Value.agg.injEq, Array.mk.injEq, List.cons.injEq, and_true] at hv
    obtain ⟨rfl, rfl, rfl, rfl⟩ := hv
    exact FCalls.of Try.func72 (by kernel_rfl) rfl (Calls.mono (nclear f w F dv hf) (fun e w' ⟨h1, h2, h3⟩ => ⟨dv, h1, h2, .inl ⟨rfl, rfl⟩, h3⟩)) rfl
  | blob h =>
    obtain ⟨a, hv, _, b1⟩ := hp
    simp only [Value.agg.injEq, Array.mk.injEq, List.cons.injEq, and_true] at hv
    obtain ⟨rfl, rfl, rfl, rfl⟩ := hv
    exact FCalls.of Try.func76 (by kernel_rfl) rfl (Calls.mono (bclear f w F dv hf) (fun e w' ⟨h1, h2, h3⟩ => ⟨_, h1, h2, .inr ⟨rfl, rfl⟩, h3⟩)) rfl
end Go.Proofs.Ytpflenaoplblkaa.ProK
