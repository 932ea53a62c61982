import Derived.Test.YtpflenaoplblkaaProZ
namespace Go.Proofs.Ytpflenaoplblkaa.ProBa
open Go.RowKit Go.Proofs.YtpflenaoplblkaaW.PrintWords Go.Proofs.YtpflenaoplblkaaW.PrintLast Go.Proofs.Ytpflenaoplblkaa.ProA Go.Proofs.Ytpflenaoplblkaa.ProB Go.Proofs.Ytpflenaoplblkaa.ProC Go.Proofs.Ytpflenaoplblkaa.ProI Go.Proofs.Ytpflenaoplblkaa.ProD Go.Proofs.Ytpflenaoplblkaa.ProE Go.Proofs.Ytpflenaoplblkaa.ProF Go.Proofs.Ytpflenaoplblkaa.ProG Go.Proofs.Ytpflenaoplblkaa.ProH Go.Proofs.Ytpflenaoplblkaa.ProJ Go.Proofs.Ytpflenaoplblkaa.ProK Go.Proofs.Ytpflenaoplblkaa.ProL Go.Proofs.Ytpflenaoplblkaa.ProM Go.Proofs.Ytpflenaoplblkaa.ProN Go.Proofs.Ytpflenaoplblkaa.ProO Go.Proofs.Ytpflenaoplblkaa.ProP Go.Proofs.Ytpflenaoplblkaa.ProQ Go.Proofs.Ytpflenaoplblkaa.ProR Go.Proofs.Ytpflenaoplblkaa.ProS Go.Proofs.Ytpflenaoplblkaa.ProT Go.Proofs.Ytpflenaoplblkaa.ProU Go.Proofs.Ytpflenaoplblkaa.ProV Go.Proofs.Ytpflenaoplblkaa.ProX Go.Proofs.Ytpflenaoplblkaa.ProZ
set_option linter.unusedVariables false
set_option linter.unusedSimpArgs false
/-! what ProtoBack and ProtoReplies want besides -/
theorem u8_app {xs ys : List Int} (h : u8s xs) (k : u8s ys) : u8s (xs ++ ys) := fun x hx => by
  rcases List.mem_append.1 hx with hx | hx
  · exact h x hx
  · exact k x hx
theorem wr_u8 (p : PS) (F : Flds) (h : u8s F.data) : u8s (wrS p F) := by
  cases p with
  | num o k _ _ => exact beB_u8 _ _
  | name => exact u8_app (beB_u8 _ _) (bytes_u8 _)
  | blob _ => exact u8_app (beB_u8 _ _) h
theorem encParts_u8 {ps : List PS} : ∀ {F : Flds} {body : List Int}, encParts ps F = some body → (∀ p ∈ ps, psmall p) → u8s F.data → u8s body ∧ body.length ≤ ps.length * (F.data.length + 21) := by
  induction ps with
  | nil => intro F body h _ _; simp only [encParts, Option.some.injEq] at h; subst h; exact ⟨u8n, by simp⟩
  | cons p ps ih =>
    intro F body h hsm hu
    simp only [encParts] at h
    split at h
    · rename_i hfit
      rw [Option.map_eq_some_iff] at h
      obtain ⟨b2, h2, rfl⟩ := h
      obtain ⟨i1, i2⟩ := ih h2 (fun q hq => hsm q (by simp [hq])) hu
      refine ⟨u8_app (wr_u8 p F hu) i1, ?_⟩
      have h3 := wrS_len p F _ rfl (hsm p (by simp)) hfit
      rw [List.length_append, List.length_cons, Nat.succ_mul, Nat.add_comm]
      exact Nat.add_le_add i2 h3
    · cases h
theorem enc_facts {tab : List (List PS)} {F : Flds} {bs : List Int} (h : encS tab F = .ok bs) (ht : TabOk tab) (h3 : ∀ ps ∈ tab, ps.length ≤ 3) (h256 : tab.length ≤ 256) (hu : u8s F.data) : u8s bs ∧ bs.length ≤ 3 * F.data.length + 68 := by
  unfold encS at h
  by_cases hk : F.kind < 1 ∨ (tab.length : Int) ≤ F.kind
  · rw [if_pos hk] at h; cases h
  rw [if_neg hk] at h
  cases hps : tab[F.kind.toNat]? with
  | none => rw [hps] at h; cases h
  | some ps =>
    rw [hps] at h
    simp only at h
    have hmem := List.mem_of_getElem? hps
    cases hb : encParts ps F with
    | none => rw [hb] at h; cases h
    | some body =>
      rw [hb] at h
      simp only at h
      split at h
      · injection h with h
        obtain ⟨e1, e2⟩ := encParts_u8 hb (ht.small ps hmem) hu
        have hp3 : ps.length * (F.data.length + 21) ≤ 3 * (F.data.length + 21) := Nat.mul_le_mul_right _ (h3 ps hmem)
        subst h
        refine ⟨u8_app (beB_u8 _ _) (fun x hx => ?_), ?_⟩
        · rcases List.mem_cons.1 hx with rfl | hx
          · omega
          · exact e1 x hx
        · rw [List.length_append, beB_len, List.length_cons]
          omega
      · cases h
theorem msg3 : ∀ ps ∈ msgTab, ps.length ≤ 3 := by simp [msgTab]
theorem rep3 : ∀ ps ∈ repTab, ps.length ≤ 3 := by simp [repTab]
theorem enc_err_code {tab : List (List PS)} {F : Flds} {q : Int} (h : encS tab F = .error q) : q = 122 ∨ q = 123 := by
  unfold encS at h
  split at h
  · injection h with h; exact .inl h.symm
  split at h
  · injection h with h; exact .inl h.symm
  · split at h
    · injection h with h; exact .inr h.symm
    · split at h
      · cases h
      · injection h with h; exact .inr h.symm
/-- each reads what it wrote, whatever another row, of another type, has become -/
theorem row_grown {α : Type} {d : Kd α} {e e2 s2 n2 base base2 : Nat} {w w1 : World} {v u : Value} {xs : List α} {ys : List Value} (h : d.R e w base (fun _ => True) v xs) (ho : w.ownsRow base2 e2 s2 u n2 ys) (hg : w.grownBy w1 u.ownBlock) (he : ∀ q, q ∈ e :: d.E → q ≠ e2) : d.R e w1 base (fun _ => True) v xs :=
  Kd.R_mono (Kd.R_move (Kd.R_bound h) (fun k hk => hg.block k hk.2.2.1 (fun hk2 => by
    obtain ⟨_, _, _, q, hq, cells, hc⟩ := hk
    obtain ⟨cells2, hc2⟩ := own_typed ho k hk2.symm
    rw [hc] at hc2
    injection hc2 with hc2
    injection hc2 with _ hc2
    exact he q hq hc2))) (fun _ _ => trivial)
theorem at_K {w0 w : World} {A : Option Addr} {n : Nat} {xs : List S35} (h : Kd.C (kAt k35 w0) w A n xs) (i : Int) (h0 : 0 ≤ i) (h1 : i < n) : ∃ ad A4 c4, A = some ad ∧ w.cell? (ad.add (i.toNat * 5)) = some (.int .i64 (rd_T35 xs i).f0) ∧ w.cell? ⟨(ad.add (i.toNat * 5)).block, (ad.add (i.toNat * 5)).off + 1, none⟩ = some (.int .i64 (rd_T35 xs i).f1) ∧ w.cell? ⟨(ad.add (i.toNat * 5)).block, (ad.add (i.toNat * 5)).off + 2, none⟩ = some (.string (rd_T35 xs i).f2) ∧ w.cell? ⟨(ad.add (i.toNat * 5)).block, (ad.add (i.toNat * 5)).off + 3, none⟩ = some (.int .i64 (rd_T35 xs i).f3) ∧ w.cell? ⟨(ad.add (i.toNat * 5)).block, (ad.add (i.toNat * 5)).off + 4, none⟩ = some (.slice A4 (rd_T35 xs i).f4.length c4) ∧ (rd_T35 xs i).f4.length ≤ c4 ∧ (Kd.int .u8).C w0 A4 (rd_T35 xs i).f4.length (rd_T35 xs i).f4 := by
  obtain ⟨ad, c, e, _, hK, hc0⟩ := Kd.C_get h z35 i h0 h1
  have hc : ∀ j u, c[j]? = some u → w.cell? (ad.add (i.toNat * 5 + j)) = some u := hc0
  have hK' : k35.K w0 (rd_T35 xs i) c := hK
  obtain ⟨A4, c4, rfl, l4, g4⟩ := k35_open hK'
  exact ⟨ad, A4, c4, e, hc 0 _ rfl, by rw [← add_field _ _ 1 (by omega)]; exact hc 1 _ rfl, by rw [← add_field _ _ 2 (by omega)]; exact hc 2 _ rfl, by rw [← add_field _ _ 3 (by omega)]; exact hc 3 _ rfl, by rw [← add_field _ _ 4 (by omega)]; exact hc 4 _ rfl, l4, g4⟩
theorem C_kAt {w0 w : World} {A : Option Addr} {n : Nat} {xs : List S35} (h : Kd.C k35 w0 A n xs) (hb : Below w0.heap.size w0 w) : Kd.C (kAt k35 w0) w A n xs := ReadsRow.imp_ h hb (fun _ _ hp => hp)
end Go.Proofs.Ytpflenaoplblkaa.ProBa
