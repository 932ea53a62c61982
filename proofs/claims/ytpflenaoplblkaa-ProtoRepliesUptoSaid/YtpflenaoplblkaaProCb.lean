import Derived.Test.YtpflenaoplblkaaProBc
import Derived.Test.YtpflenaoplblkaaProCa
namespace Go.Proofs.Ytpflenaoplblkaa.ProCb
open Go.ChangeShapes Go.WideShapes Go.Deep
open Go.RowKit Go.Proofs.YtpflenaoplblkaaW.PrintWords Go.Proofs.YtpflenaoplblkaaW.PrintLast Go.Proofs.Ytpflenaoplblkaa.ProA Go.Proofs.Ytpflenaoplblkaa.ProB Go.Proofs.Ytpflenaoplblkaa.ProC Go.Proofs.Ytpflenaoplblkaa.ProI Go.Proofs.Ytpflenaoplblkaa.ProD Go.Proofs.Ytpflenaoplblkaa.ProE Go.Proofs.Ytpflenaoplblkaa.ProF Go.Proofs.Ytpflenaoplblkaa.ProG Go.Proofs.Ytpflenaoplblkaa.ProH Go.Proofs.Ytpflenaoplblkaa.ProJ Go.Proofs.Ytpflenaoplblkaa.ProK Go.Proofs.Ytpflenaoplblkaa.ProL Go.Proofs.Ytpflenaoplblkaa.ProM Go.Proofs.Ytpflenaoplblkaa.ProN Go.Proofs.Ytpflenaoplblkaa.ProO Go.Proofs.Ytpflenaoplblkaa.ProP Go.Proofs.Ytpflenaoplblkaa.ProQ Go.Proofs.Ytpflenaoplblkaa.ProR Go.Proofs.Ytpflenaoplblkaa.ProS Go.Proofs.Ytpflenaoplblkaa.ProT Go.Proofs.Ytpflenaoplblkaa.ProU Go.Proofs.Ytpflenaoplblkaa.ProV Go.Proofs.Ytpflenaoplblkaa.ProX Go.Proofs.Ytpflenaoplblkaa.ProZ Go.Proofs.Ytpflenaoplblkaa.ProBa Go.Proofs.Ytpflenaoplblkaa.ProW Go.Proofs.Ytpflenaoplblkaa.ProBc
set_option linter.unusedVariables false
set_option linter.unusedSimpArgs false
set_option maxRecDepth 100000 in
theorem open_reps {H : Type} {enc : TypeId × Value → H} {W : World} {v : Value} {d : DataW H} {p : List MemPlace} (hv : Value.okWide Try.prog W .any 0 41 v) (h : DataW.Trod enc Try.prog W 0 (fun _ => true) true 41 v d p) :
    ∃ (A : Option Addr) (c : Nat) (xs : List S44), v = .slice A xs.length c ∧ Kd.C k44 W A xs.length xs ∧ xs.length ≤ c ∧ (∀ M ∈ xs, u8s M.f3) ∧ (xs.map (fun M => M.f3.length)).sum + xs.length ≤ Rows.uptoBulk d := by
  obtain ⟨A, n, c, rfl⟩ := okWide_slice Try.underlying41 hv
  obtain ⟨fuel, hf⟩ := h
  rcases open_slice_fields Try.underlying41 Try.underlying44 (by kernel_rfl) (by kernel_rfl) hf with ⟨hcs, _⟩ | ⟨a, len, cap, m, D, Pl, hcs, _, hl, hm, hmm, hx, hi⟩
  · simp [Value.cells] at hcs
    obtain ⟨rfl, rfl, rfl⟩ := hcs
    exact ⟨none, 0, [], rfl, Kd.C_nil _ _, by simp, by simp, by simp⟩
  · simp [Value.cells] at hcs
    obtain ⟨rfl, rfl, rfl⟩ := hcs
    have hcm : c = m := by rw [hmm]; simp
    have hone : ∀ i, ∃ M : S44, i < n → (∃ cs, cs.length = 4 ∧ k44.K W M cs ∧ ∀ j u, cs[j]? = some u → W.cell? (a.add (i * 4 + j)) = some u) ∧ u8s M.f3 ∧ M.f3.length + 1 ≤ Rows.uptoBulk (D i) := fun i => by
      by_cases hin : i < n
      · obtain ⟨ys, k, hD, _, hys, hf⟩ := hi i (by omega)
        obtain ⟨v0, y0, c0, _, t0⟩ := hf 0 _ rfl
        obtain ⟨v1, y1, c1, _, t1⟩ := hf 1 _ rfl
        obtain ⟨v2, y2, c2, _, t2⟩ := hf 2 _ rfl
        obtain ⟨v3, y3, c3, h3, t3⟩ := hf 3 _ rfl
        obtain ⟨n0, e0, _, _⟩ := DataW.trod_int (k := .i64) (by kernel_rfl) t0
        obtain ⟨n1, e1, _, _⟩ := DataW.trod_int (k := .i64) (by kernel_rfl) t1
        obtain ⟨n2, e2, _, _⟩ := DataW.trod_int (k := .i64) (by kernel_rfl) t2
        obtain ⟨A4, c4', xs4, rfl, hr4, hc4, hu4, hb4⟩ := inner_bytes t3
        simp at e0 e1 e2
        subst e0 e1 e2
        refine ⟨⟨n0, n1, n2, xs4⟩, fun _ => ⟨⟨_, rfl, k44_mk W ⟨n0, n1, n2, xs4⟩ hc4 (ProN.BytesAt.of hr4), fun j u hj => ?_⟩, hu4, ?_⟩⟩
        · match j, hj with
          | 0, hj => simp at hj; subst hj; exact c0
          | 1, hj => simp at hj; subst hj; exact c1
          | 2, hj => simp at hj; subst hj; exact c2
          | 3, hj => simp at hj; subst hj; exact c3
          | k + 4, hj => simp at hj
        · rw [hD]
          simp only [Rows.uptoBulk]
          have hmem : y3.1 ∈ ys.map (·.1) := List.mem_map.2 ⟨y3, List.mem_of_getElem? h3, rfl⟩
          have := part_le hmem
          show xs4.length + 1 ≤ _
          omega
      · exact ⟨z44, fun h => absurd h hin⟩
    obtain ⟨g, hg⟩ := Classical.axiomOfChoice hone
    have hlen : ((List.range n).map g).length = n := by simp
    refine ⟨some a, c, (List.range n).map g, by rw [hlen], ?_, by rw [hlen]; exact hl, ?_, ?_⟩
    · refine ⟨rfl, by unfold maxLen at hm; omega, fun _ => ⟨a, rfl, fun j q hq => ?_⟩⟩
      have hjn : j < n := by
        have := (List.getElem?_eq_some_iff.1 hq).1
        omega
      rw [List.getElem?_map, List.getElem?_range hjn] at hq
      simp at hq
      subst hq
      exact (hg j hjn).1
    · intro M hM
      obtain ⟨i, hi', rfl⟩ := List.mem_map.1 hM
      exact (hg i (List.mem_range.1 hi')).2.1
    · have h1 := sum_le (D := D) (g := fun i => (g i).f3.length) (List.range n) (fun i hi' => (hg i (List.mem_range.1 hi')).2.2)
      simp only [Prod.mk.injEq] at hx
      rw [hx.1]
      simp only [Rows.uptoBulk]
      rw [List.map_map, hlen]
      rw [List.length_range] at h1
      show (List.map (fun i => (g i).f3.length) (List.range n)).sum + n ≤ _
      omega
end Go.Proofs.Ytpflenaoplblkaa.ProCb
