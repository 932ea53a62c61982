import Derived.Test.YtpflenaoplblkaaProCb
namespace Go.Proofs.Ytpflenaoplblkaa.ProCc
open Go.RowKit Go.Proofs.YtpflenaoplblkaaW.PrintWords Go.Proofs.YtpflenaoplblkaaW.PrintLast Go.Proofs.Ytpflenaoplblkaa.ProA Go.Proofs.Ytpflenaoplblkaa.ProB Go.Proofs.Ytpflenaoplblkaa.ProC Go.Proofs.Ytpflenaoplblkaa.ProI Go.Proofs.Ytpflenaoplblkaa.ProD Go.Proofs.Ytpflenaoplblkaa.ProE Go.Proofs.Ytpflenaoplblkaa.ProF Go.Proofs.Ytpflenaoplblkaa.ProG Go.Proofs.Ytpflenaoplblkaa.ProH Go.Proofs.Ytpflenaoplblkaa.ProJ Go.Proofs.Ytpflenaoplblkaa.ProK Go.Proofs.Ytpflenaoplblkaa.ProL Go.Proofs.Ytpflenaoplblkaa.ProM Go.Proofs.Ytpflenaoplblkaa.ProN Go.Proofs.Ytpflenaoplblkaa.ProO Go.Proofs.Ytpflenaoplblkaa.ProP Go.Proofs.Ytpflenaoplblkaa.ProQ Go.Proofs.Ytpflenaoplblkaa.ProR Go.Proofs.Ytpflenaoplblkaa.ProS Go.Proofs.Ytpflenaoplblkaa.ProT Go.Proofs.Ytpflenaoplblkaa.ProU Go.Proofs.Ytpflenaoplblkaa.ProV Go.Proofs.Ytpflenaoplblkaa.ProX Go.Proofs.Ytpflenaoplblkaa.ProZ Go.Proofs.Ytpflenaoplblkaa.ProBa Go.Proofs.Ytpflenaoplblkaa.ProCa
set_option linter.unusedVariables false
set_option linter.unusedSimpArgs false
/-! where the cut falls: plain -/
def endOf (bss : List (List Int)) (k : Nat) : Nat := (bss.take k).flatten.length
theorem where_ (bss : List (List Int)) (n : Nat) : ∀ j, ∃ m, m ≤ j ∧ endOf bss m ≤ n ∧ ∀ k, m < k → k ≤ j → n < endOf bss k := by
  intro j
  induction j with
  | zero => exact ⟨0, by omega, by simp [endOf], fun k h1 h2 => by omega⟩
  | succ j ih =>
    obtain ⟨m, h1, h2, h3⟩ := ih
    by_cases h : endOf bss (j + 1) ≤ n
    · exact ⟨j + 1, by omega, h, fun k h4 h5 => by omega⟩
    · refine ⟨m, by omega, h2, fun k h4 h5 => ?_⟩
      by_cases hk : k = j + 1
      · subst hk; omega
      · exact h3 k h4 (by omega)
theorem endOf_succ (bss : List (List Int)) (m : Nat) (h : m < bss.length) : endOf bss (m + 1) = endOf bss m + bss[m].length := by
  unfold endOf
  rw [List.take_succ_eq_append_getElem h, List.flatten_append, List.length_append]
  simp
theorem rep_part {tab : List (List PS)} (ht : TabBack tab) (l : List Flds) (bss : List (List Int)) (h : l.map (encS tab) = bss.map .ok) (n m : Nat) (hm : m ≤ bss.length) (h1 : endOf bss m ≤ n) (h2 : m < bss.length → n < endOf bss (m + 1)) :
    repS tab (bss.flatten.take n) = (l.take m, endOf bss m, 0) := by
  have hsplit : bss.flatten = (bss.take m).flatten ++ (bss.drop m).flatten := by rw [← List.flatten_append, List.take_append_drop]
  have hl : (l.take m).map (encS tab) = (bss.take m).map .ok := by rw [List.map_take, h, List.map_take]
  have hn0 : cutS tab [] = .ok none := rfl
  rw [hsplit, List.take_append, List.take_of_length_le h1, rep_all ht _ _ _ hl]
  by_cases hlt : m < bss.length
  · have hll : m < l.length := by
      have := congrArg List.length h
      rw [List.length_map, List.length_map] at this
      omega
    have he := endOf_succ bss m hlt
    have h3 := h2 hlt
    have hd : bss.drop m = bss[m] :: bss.drop (m + 1) := List.drop_eq_getElem_cons hlt
    have hF : encS tab l[m] = .ok bss[m] := by
      have h4 : (l.map (encS tab))[m]? = (bss.map .ok)[m]? := by rw [h]
      rw [List.getElem?_map, List.getElem?_map, List.getElem?_eq_getElem hll, List.getElem?_eq_getElem hlt] at h4
      simpa using h4
    have hc := enc_cut hF ht []
    rw [List.append_nil] at hc
    have he2 : (bss.take m).flatten.length = endOf bss m := rfl
    rw [hd, List.flatten_cons, he2, List.take_append_of_le_length (by omega), repS_wait (cut_short hc _ (by omega))]
    simp
  · rw [List.drop_of_length_le (by omega), List.flatten_nil, List.take_nil, repS_wait hn0]
    simp [endOf]
end Go.Proofs.Ytpflenaoplblkaa.ProCc
