import Derived.Test.YtpflenaoplblkaaRows
import Derived.Test.YtpflenaoplblkaaProT
import Derived.ProofKit
import Derived.OpenShut
import Derived.ShutString
import Derived.ChangeOld
import Derived.Below
import Derived.JoinedCond
namespace Go.Proofs.Ytpflenaoplblkaa.ProW
open Go.ChangeShapes Go.WideShapes Go.ChangeAt Go.RowKit Go.Proofs.YtpflenaoplblkaaW.PrintWords Go.Proofs.Ytpflenaoplblkaa.ProA Go.Proofs.Ytpflenaoplblkaa.ProB Go.Proofs.Ytpflenaoplblkaa.ProN
set_option linter.unusedVariables false
set_option linter.unusedSimpArgs false
/-! what the bound gives; how arguments read -/
theorem own : ownKnob Try.prog.godebug = none := by kernel_rfl
theorem laidOut : laidOutB Try.prog = true := by kernel_rfl
theorem one_le {H : Type} (d : DataW H) : 1 ≤ Rows.uptoBulk d := by
  cases d with
  | lit l => cases l <;> simp [Rows.uptoBulk]
  | nil => simp [Rows.uptoBulk]
  | ptr d => simp [Rows.uptoBulk]
  | slice elems spare => simp [Rows.uptoBulk]
  | agg parts => simp [Rows.uptoBulk]
  | iface t d => simp [Rows.uptoBulk]
  | map entries => simp [Rows.uptoBulk]
  | held h => simp [Rows.uptoBulk]
theorem part_le {H : Type} {d : DataW H} {l : List (DataW H)} (h : d ∈ l) : Rows.uptoBulk d ≤ Rows.uptoBulkAll l := by
  induction l with
  | nil => cases h
  | cons x r ih =>
    simp only [Rows.uptoBulkAll]
    cases List.mem_cons.1 h with
    | inl e => subst e; omega
    | inr e => have := ih e; omega
theorem length_le {H : Type} (l : List (DataW H)) : l.length ≤ Rows.uptoBulkAll l := by
  induction l with
  | nil => simp [Rows.uptoBulkAll]
  | cons x r ih => have := one_le x; simp only [Rows.uptoBulkAll, List.length_cons]; omega
theorem bound {H : Type} {l : List (DataW H)} (hk : Rows.uptoSmall H l = true) : Rows.uptoBulkAll l ≤ 1048576 := of_decide_eq_true hk
set_option maxRecDepth 100000 in
/-- numbers that came in, as a list -/
theorem open_nums {H : Type} {enc : TypeId × Value → H} {W : World} {t e : TypeId} {k : IntKind} {v : Value} {d : DataW H} {p : List MemPlace} (ht : Try.prog.underlying t = some (.slice e)) (he : Try.prog.underlying e = some (.int k)) (h1 : Try.prog.cellsOf e = 1)
    (hv : Value.okWide Try.prog W .any 0 t v) (h : DataW.Trod enc Try.prog W 0 (fun _ => true) true t v d p) :
    ∃ (A : Option Addr) (c : Nat) (xs : List Int), v = .slice A xs.length c ∧ ReadsInt W k A xs.length xs ∧ xs.length ≤ c ∧ (∀ x ∈ xs, (Lit.int k x).wf = true) ∧ xs.length ≤ Rows.uptoBulk d := by
  obtain ⟨A, n, c, rfl⟩ := okWide_slice ht hv
  obtain ⟨fuel, hf⟩ := h
  rcases open_ints ht he h1 hf with ⟨hcs, _⟩ | ⟨x, l, cc, zs, hcs, _, hl, hm, hz, hx, hcell, hwz⟩
  · simp [Value.cells] at hcs
    obtain ⟨rfl, rfl, rfl⟩ := hcs
    exact ⟨none, 0, [], rfl, ⟨rfl, by simp, fun hn => by simp at hn⟩, by simp, by simp, by have := one_le d; simp⟩
  · simp [Value.cells] at hcs
    obtain ⟨rfl, rfl, rfl⟩ := hcs
    have hzl : zs.length = c := by simpa using hz
    have hlen : (zs.take n).length = n := by rw [List.length_take]; omega
    refine ⟨some x, c, zs.take n, by rw [hlen], ?_, by omega, fun y hy => hwz y (List.mem_of_mem_take hy), ?_⟩
    · unfold maxLen at hm
      refine ⟨rfl, by omega, fun hn => ⟨x, rfl, fun j hj => ?_⟩⟩
      rw [hcell j (by omega)]
      simp only [List.getD_eq_getElem?_getD]
      rw [List.getElem?_take_of_lt (by omega)]
    · injection hx with hx _
      subst hx
      simp only [Rows.uptoBulk]
      have := length_le (H := H) (lits k (zs.take n))
      have hll : (lits (H := H) k (zs.take n)).length = n := by rw [show (lits (H := H) k (zs.take n)).length = (zs.take n).length by simp [lits]]; exact hlen
      omega
end Go.Proofs.Ytpflenaoplblkaa.ProW
