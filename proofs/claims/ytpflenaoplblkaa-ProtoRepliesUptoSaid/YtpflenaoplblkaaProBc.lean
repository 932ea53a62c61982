import Derived.Test.YtpflenaoplblkaaProW
import Derived.Test.YtpflenaoplblkaaProBa
import Derived.Deep.Slices
import Derived.Deep.Fields
import Derived.ChangeSame
namespace Go.Proofs.Ytpflenaoplblkaa.ProBc
open Go.ChangeShapes Go.WideShapes Go.Deep
open Go.RowKit Go.Proofs.YtpflenaoplblkaaW.PrintWords Go.Proofs.YtpflenaoplblkaaW.PrintLast Go.Proofs.Ytpflenaoplblkaa.ProA Go.Proofs.Ytpflenaoplblkaa.ProB Go.Proofs.Ytpflenaoplblkaa.ProC Go.Proofs.Ytpflenaoplblkaa.ProI Go.Proofs.Ytpflenaoplblkaa.ProD Go.Proofs.Ytpflenaoplblkaa.ProE Go.Proofs.Ytpflenaoplblkaa.ProF Go.Proofs.Ytpflenaoplblkaa.ProG Go.Proofs.Ytpflenaoplblkaa.ProH Go.Proofs.Ytpflenaoplblkaa.ProJ Go.Proofs.Ytpflenaoplblkaa.ProK Go.Proofs.Ytpflenaoplblkaa.ProL Go.Proofs.Ytpflenaoplblkaa.ProM Go.Proofs.Ytpflenaoplblkaa.ProN Go.Proofs.Ytpflenaoplblkaa.ProO Go.Proofs.Ytpflenaoplblkaa.ProP Go.Proofs.Ytpflenaoplblkaa.ProQ Go.Proofs.Ytpflenaoplblkaa.ProR Go.Proofs.Ytpflenaoplblkaa.ProS Go.Proofs.Ytpflenaoplblkaa.ProT Go.Proofs.Ytpflenaoplblkaa.ProU Go.Proofs.Ytpflenaoplblkaa.ProV Go.Proofs.Ytpflenaoplblkaa.ProX Go.Proofs.Ytpflenaoplblkaa.ProZ Go.Proofs.Ytpflenaoplblkaa.ProBa Go.Proofs.Ytpflenaoplblkaa.ProW
set_option linter.unusedVariables false
set_option linter.unusedSimpArgs false
section
variable {H : Type} {enc : TypeId × Value → H} {P : Program} {w : World} {base : Nat} {spare : Nat → Bool} {held : Bool}
theorem open_slice_fields {t e : TypeId} {fs : Array Field} {fuel : Nat} {cs : List Value} {x : DataW H × List MemPlace} (ht : P.underlying t = some (.slice e)) (he : P.underlying e = some (.struct fs))
    (hone : oneCellFields P fs = true) (hC : P.cellsOf e = fs.size) (h : DataW.trod enc P w base spare held fuel t cs = some x) :
    (cs = [.slice none 0 0] ∧ x = (.nil, [])) ∨
    ∃ (a : Addr) (len cap m : Nat) (D : Nat → DataW H) (Pl : Nat → List MemPlace), cs = [.slice (some a) len cap] ∧ base ≤ a.block ∧ len ≤ cap ∧ cap ≤ maxLen ∧ m = (if spare a.block then cap else len) ∧
      x = (.slice ((List.range len).map D) ((List.range (m - len)).map fun j => D (len + j)), MemPlace.row a (m * fs.size) ++ (List.range m).flatMap Pl) ∧
      ∀ i, i < m → ∃ (ys : List (DataW H × List MemPlace)) (n : Nat), D i = .agg (ys.map (·.1)) ∧ Pl i = ys.flatMap (·.2) ∧ ys.length = fs.size ∧
        ∀ (j : Nat) (f : Field), fs[j]? = some f → ∃ (v : Value) (y : DataW H × List MemPlace), w.cell? (a.add (i * fs.size + j)) = some v ∧ ys[j]? = some y ∧ DataW.trod enc P w base spare held n f.type [v] = some y := by
  rcases open_slice ht h with h0 | ⟨a, len, cap, m, n, D, Pl, hcs, hb, hl, hm, hmm, hx, hi⟩
  · exact .inl h0
  · refine .inr ⟨a, len, cap, m, D, Pl, hcs, hb, hl, hm, hmm, by rw [hC] at hx; exact hx, fun i him => ?_⟩
    obtain ⟨cs', hc, ht'⟩ := hi i him
    rw [hC] at hc
    obtain ⟨ys, n', hn', hy, hlen, hyl, hf⟩ := DataW.trod_struct he ht'
    obtain ⟨_, hcl, hat⟩ := World.cells?_some hc
    simp only [Prod.mk.injEq] at hy
    refine ⟨ys, n', hy.1, hy.2, hyl, fun j f hj => ?_⟩
    obtain ⟨ho, hk⟩ := hone_of hone j f hj
    have hjl : j < fs.size := (Array.getElem?_eq_some_iff.1 hj).1
    have hcell := hat j hjl
    have hv : cs'[j]? = some (cs'[j]'(by omega)) := List.getElem?_eq_getElem (by omega)
    have h1 := hf j f hj
    rw [ho, hk] at h1
    have hone' : (cs'.drop j).take 1 = [cs'[j]'(by omega)] := by
      rw [List.drop_eq_getElem_cons (by omega)]
      rfl
    rw [hone'] at h1
    have hys : ys[j]? = some (ys[j]'(by omega)) := List.getElem?_eq_getElem (by omega)
    refine ⟨_, _, ?_, hys, h1.trans hys⟩
    rw [← Go.Deep.add_add, hcell, hv]
end

theorem five {α : Type} (xs : List α) (h : xs.length = 5) : ∃ a b c d e, xs = [a, b, c, d, e] := by
  match xs, h with
  | [a, b, c, d, e], _ => exact ⟨a, b, c, d, e, rfl⟩
theorem inner_bytes {H : Type} {enc : TypeId × Value → H} {W : World} {v : Value} {y : DataW H × List MemPlace} {fuel : Nat} (hf : DataW.trod enc Try.prog W 0 (fun _ => true) true fuel 22 [v] = some y) :
    ∃ (A : Option Addr) (c : Nat) (xs : List Int), v = .slice A xs.length c ∧ ReadsInt W .u8 A xs.length xs ∧ xs.length ≤ c ∧ u8s xs ∧ xs.length ≤ Rows.uptoBulk y.1 := by
  rcases open_ints Try.underlying22 Try.underlying5 (by kernel_rfl) hf with ⟨hcs, _⟩ | ⟨x, l, cc, zs, hcs, _, hl, hm, hz, hx, hcell, hwz⟩
  · injection hcs with hcs
    subst hcs
    exact ⟨none, 0, [], rfl, ⟨rfl, by simp, fun hn => by simp at hn⟩, by simp, u8n, by have := one_le y.1; simp⟩
  · injection hcs with hcs
    subst hcs
    have hzl : zs.length = cc := by simpa using hz
    have hlen : (zs.take l).length = l := by rw [List.length_take]; omega
    refine ⟨some x, cc, zs.take l, by rw [hlen], ?_, by omega, fun q hq => ?_, ?_⟩
    · unfold maxLen at hm
      refine ⟨rfl, by omega, fun hn => ⟨x, rfl, fun j hj => ?_⟩⟩
      rw [hcell j (by omega)]
      simp only [List.getD_eq_getElem?_getD]
      rw [List.getElem?_take_of_lt (by omega)]
    · have := hwz q (List.mem_of_mem_take hq)
      simp [Lit.wf, IntKind.min, IntKind.max, IntKind.signed, IntKind.bits] at this
      omega
    · subst hx
      simp only [Rows.uptoBulk]
      have := length_le (H := H) (lits .u8 (zs.take l))
      have hll : (lits (H := H) .u8 (zs.take l)).length = l := by rw [show (lits (H := H) .u8 (zs.take l)).length = (zs.take l).length by simp [lits]]; exact hlen
      omega
theorem sum_le {H : Type} {D : Nat → DataW H} {g : Nat → Nat} : ∀ l : List Nat, (∀ i ∈ l, g i + 1 ≤ Rows.uptoBulk (D i)) → (l.map g).sum + l.length ≤ Rows.uptoBulkAll (l.map D) := by
  intro l
  induction l with
  | nil => intro _; simp
  | cons a l ih =>
    intro h
    have h1 := h a (by simp)
    have h2 := ih (fun i hi => h i (by simp [hi]))
    simp only [List.map_cons, List.sum_cons, List.length_cons, Rows.uptoBulkAll]
    omega
set_option maxRecDepth 100000 in
theorem open_msgs {H : Type} {enc : TypeId × Value → H} {W : World} {v : Value} {d : DataW H} {p : List MemPlace} (hv : Value.okWide Try.prog W .any 0 27 v) (h : DataW.Trod enc Try.prog W 0 (fun _ => true) true 27 v d p) :
    ∃ (A : Option Addr) (c : Nat) (xs : List S35), v = .slice A xs.length c ∧ Kd.C k35 W A xs.length xs ∧ xs.length ≤ c ∧ (∀ M ∈ xs, u8s M.f4) ∧ (xs.map (fun M => M.f4.length)).sum + xs.length ≤ Rows.uptoBulk d := by
  obtain ⟨A, n, c, rfl⟩ := okWide_slice Try.underlying27 hv
  obtain ⟨fuel, hf⟩ := h
  rcases open_slice_fields Try.underlying27 Try.underlying35 (by kernel_rfl) (by kernel_rfl) hf with ⟨hcs, _⟩ | ⟨a, len, cap, m, D, Pl, hcs, _, hl, hm, hmm, hx, hi⟩
  · simp [Value.cells] at hcs
    obtain ⟨rfl, rfl, rfl⟩ := hcs
    exact ⟨none, 0, [], rfl, Kd.C_nil _ _, by simp, by simp, by simp⟩
  · simp [Value.cells] at hcs
    obtain ⟨rfl, rfl, rfl⟩ := hcs
    have hcm : c = m := by rw [hmm]; simp
    have hone : ∀ i, ∃ M : S35, i < n → (∃ cs, cs.length = 5 ∧ k35.K W M cs ∧ ∀ j u, cs[j]? = some u → W.cell? (a.add (i * 5 + j)) = some u) ∧ u8s M.f4 ∧ M.f4.length + 1 ≤ Rows.uptoBulk (D i) := fun i => by
      by_cases hin : i < n
      · obtain ⟨ys, k, hD, _, hys, hf⟩ := hi i (by omega)
        obtain ⟨v0, y0, c0, _, t0⟩ := hf 0 _ rfl
        obtain ⟨v1, y1, c1, _, t1⟩ := hf 1 _ rfl
        obtain ⟨v2, y2, c2, _, t2⟩ := hf 2 _ rfl
        obtain ⟨v3, y3, c3, _, t3⟩ := hf 3 _ rfl
        obtain ⟨v4, y4, c4, h4, t4⟩ := hf 4 _ rfl
        obtain ⟨n0, e0, _, _⟩ := DataW.trod_int (k := .i64) (by kernel_rfl) t0
        obtain ⟨n1, e1, _, _⟩ := DataW.trod_int (k := .i64) (by kernel_rfl) t1
        obtain ⟨s2, e2, _, _⟩ := DataW.trod_string (by kernel_rfl) t2
        obtain ⟨n3, e3, _, _⟩ := DataW.trod_int (k := .i64) (by kernel_rfl) t3
        obtain ⟨A4, c4', xs4, rfl, hr4, hc4, hu4, hb4⟩ := inner_bytes t4
        simp at e0 e1 e2 e3
        subst e0 e1 e2 e3
        refine ⟨⟨n0, n1, s2, n3, xs4⟩, fun _ => ⟨⟨_, rfl, k35_mk W ⟨n0, n1, s2, n3, xs4⟩ hc4 (ProN.BytesAt.of hr4), fun j u hj => ?_⟩, hu4, ?_⟩⟩
        · match j, hj with
          | 0, hj => simp at hj; subst hj; exact c0
          | 1, hj => simp at hj; subst hj; exact c1
          | 2, hj => simp at hj; subst hj; exact c2
          | 3, hj => simp at hj; subst hj; exact c3
          | 4, hj => simp at hj; subst hj; exact c4
          | k + 5, hj => simp at hj
        · rw [hD]
          simp only [Rows.uptoBulk]
          have hmem : y4.1 ∈ ys.map (·.1) := List.mem_map.2 ⟨y4, List.mem_of_getElem? h4, rfl⟩
          have := part_le hmem
          show xs4.length + 1 ≤ _
          omega
      · exact ⟨z35, fun h => absurd h hin⟩
    obtain ⟨g, hg⟩ := Classical.axiomOfChoice hone
    have hlen : ((List.range n).map g).length = n := by simp
    refine ⟨some a, c, (List.range n).map g, by rw [hlen], ?_, by rw [hlen]; exact hl, ?_, ?_⟩
    · refine ⟨rfl, by unfold maxLen at hm; omega, fun _ => ⟨a, rfl, fun j q hq => ?_⟩⟩
      have hjn : j < n := by
        have := (List.getElem?_eq_some_iff.1 hq).1
        omega
      rw [List.getElem?_map, List.getElem?_range hjn] at hq
      simp at hq
      subst hq
      exact (hg j hjn).1
    · intro M hM
      obtain ⟨i, hi', rfl⟩ := List.mem_map.1 hM
      exact (hg i (List.mem_range.1 hi')).2.1
    · have h1 := sum_le (D := D) (g := fun i => (g i).f4.length) (List.range n) (fun i hi' => (hg i (List.mem_range.1 hi')).2.2)
      simp only [Prod.mk.injEq] at hx
      rw [hx.1]
      simp only [Rows.uptoBulk]
      rw [List.map_map, hlen]
      rw [List.length_range] at h1
      show (List.map (fun i => (g i).f4.length) (List.range n)).sum + n ≤ _
      omega
end Go.Proofs.Ytpflenaoplblkaa.ProBc
