import Derived.Test.YtpflenaoplblkaaProCc
import Derived.Test.YtpflenaoplblkaaProBb
namespace Go.Proofs.Ytpflenaoplblkaa.ProCe
open Go.RowKit Go.Proofs.YtpflenaoplblkaaW.PrintWords Go.Proofs.YtpflenaoplblkaaW.PrintLast Go.Proofs.Ytpflenaoplblkaa.ProA Go.Proofs.Ytpflenaoplblkaa.ProB Go.Proofs.Ytpflenaoplblkaa.ProC Go.Proofs.Ytpflenaoplblkaa.ProI Go.Proofs.Ytpflenaoplblkaa.ProD Go.Proofs.Ytpflenaoplblkaa.ProE Go.Proofs.Ytpflenaoplblkaa.ProF Go.Proofs.Ytpflenaoplblkaa.ProG Go.Proofs.Ytpflenaoplblkaa.ProH Go.Proofs.Ytpflenaoplblkaa.ProJ Go.Proofs.Ytpflenaoplblkaa.ProK Go.Proofs.Ytpflenaoplblkaa.ProL Go.Proofs.Ytpflenaoplblkaa.ProM Go.Proofs.Ytpflenaoplblkaa.ProN Go.Proofs.Ytpflenaoplblkaa.ProO Go.Proofs.Ytpflenaoplblkaa.ProP Go.Proofs.Ytpflenaoplblkaa.ProQ Go.Proofs.Ytpflenaoplblkaa.ProR Go.Proofs.Ytpflenaoplblkaa.ProS Go.Proofs.Ytpflenaoplblkaa.ProT Go.Proofs.Ytpflenaoplblkaa.ProU Go.Proofs.Ytpflenaoplblkaa.ProV Go.Proofs.Ytpflenaoplblkaa.ProX Go.Proofs.Ytpflenaoplblkaa.ProZ Go.Proofs.Ytpflenaoplblkaa.ProBa Go.Proofs.Ytpflenaoplblkaa.ProCa Go.Proofs.Ytpflenaoplblkaa.ProCc
set_option linter.unusedVariables false
set_option linter.unusedSimpArgs false
/-! plain: what DecodeReplies tells is encoded to the same bytes -/
def encRs (l : List Flds) : List Int := (l.map fun F => match encS repTab F with | .ok bs => bs | .error _ => []).flatten
theorem rep_enc : ∀ (k : Nat) (b : List Int), b.length < k → u8s b →
    (∀ F ∈ (repS repTab b).1, ∃ bs, encS repTab F = .ok bs ∧ fldR (repOf F) = F) ∧ (repS repTab b).2.1 = (encRs (repS repTab b).1).length ∧ ∃ r, b = encRs (repS repTab b).1 ++ r := by
  intro k
  induction k with
  | zero => intro b h; omega
  | succ k ih =>
    intro b hl hu
    cases hc : cutS repTab b with
    | error q =>
      rw [repS_err hc]
      exact ⟨by simp, by simp [encRs], b, by simp [encRs]⟩
    | ok r =>
      cases r with
      | none =>
        rw [repS_wait hc]
        exact ⟨by simp, by simp [encRs], b, by simp [encRs]⟩
      | some x =>
        obtain ⟨F, n⟩ := x
        obtain ⟨h1, h2, _⟩ := cutS_some hc
        have he := cut_enc hc hu repTab_nod
        obtain ⟨i1, i2, r, i3⟩ := ih (b.drop n) (by rw [List.length_drop]; omega) (fun x hx => hu x (List.mem_of_mem_drop hx))
        rw [repS_step hc]
        have hcons : encRs (F :: (repS repTab (b.drop n)).1) = b.take n ++ encRs (repS repTab (b.drop n)).1 := by
          simp only [encRs, List.map_cons, List.flatten_cons]
          rw [he]
        refine ⟨?_, ?_, r, ?_⟩
        · intro G hG
          simp only [List.mem_cons] at hG
          rcases hG with rfl | hG
          · exact ⟨_, he, cut_rep hc⟩
          · exact i1 G hG
        · simp only
          rw [hcons, i2, List.length_append, List.length_take]
          omega
        · simp only
          rw [hcons, List.append_assoc, ← i3, List.take_append_drop]
theorem encRs_take (l : List Flds) (i : Nat) (h : i < l.length) (bs : List Int) (hb : encS repTab l[i] = .ok bs) : encRs (l.take (i + 1)) = encRs (l.take i) ++ bs := by
  rw [List.take_succ_eq_append_getElem h]
  simp only [encRs, List.map_append, List.flatten_append, List.map_cons, List.map_nil, List.flatten_cons, List.flatten_nil, List.append_nil]
  rw [hb]
theorem encRs_pre (l : List Flds) (i : Nat) : (encRs (l.take i)).length ≤ (encRs l).length := by
  conv => rhs; rw [← List.take_append_drop i l]
  simp only [encRs, List.map_append, List.flatten_append, List.length_append]
  omega
theorem encRs_len (l : List Flds) (h : ∀ F ∈ l, ∃ bs, encS repTab F = .ok bs) : l.length ≤ (encRs l).length := by
  induction l with
  | nil => simp
  | cons F l ih =>
    obtain ⟨bs, hb⟩ := h F (by simp)
    have h5 := (enc_data hb).2
    have := ih (fun G hG => h G (by simp [hG]))
    have hc : encRs (F :: l) = bs ++ encRs l := by
      simp only [encRs, List.map_cons, List.flatten_cons]
      rw [hb]
    rw [hc, List.length_append, List.length_cons]
    omega
/-- a row of numbers when a row of bytes grows -/
theorem row_ends {w w1 : World} {base : Nat} {v u : Value} {xs ys : List Int} (h : Kd.R (Kd.int .i64) 3 w base (fun _ => True) v xs) (ho : Own w base (fun _ => True) u ys) (hg : w.grownBy w1 u.ownBlock) : Kd.R (Kd.int .i64) 3 w1 base (fun _ => True) v xs := by
  obtain ⟨inner, ho⟩ := Kd.R_own ho
  exact row_grown h ho hg (fun q hq => by
    rcases List.mem_cons.1 hq with rfl | hq
    · decide
    · cases hq)
end Go.Proofs.Ytpflenaoplblkaa.ProCe
