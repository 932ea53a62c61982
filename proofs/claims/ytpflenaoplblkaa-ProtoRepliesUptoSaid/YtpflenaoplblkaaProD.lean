import Derived.Test.YtpflenaoplblkaaProI
import Derived.Lib.AppendStr
namespace Go.Proofs.Ytpflenaoplblkaa.ProD
open Go.RowKit Go.Proofs.YtpflenaoplblkaaW.PrintWords Go.Proofs.YtpflenaoplblkaaW.PrintLast Go.Proofs.Ytpflenaoplblkaa.ProA Go.Proofs.Ytpflenaoplblkaa.ProB Go.Proofs.Ytpflenaoplblkaa.ProC Go.Proofs.Ytpflenaoplblkaa.ProI
set_option linter.unusedVariables false
set_option linter.unusedSimpArgs false
/-- append(v, s...), s a string: where the new row lies, too. -/
theorem app_str {P : Program} {w : World} (base : Nat) (t u ty e : TypeId) (i : TypeInfo) (ht : P.underlying t = some (.slice e)) (hu : P.underlying u = some .string) (hi : P.info? e = some i) (hz : i.zero = some (.int .u8 0))
    (hsize : i.size = 1) (hby : i.bytes = 1) (v : Value) (n : Nat) (xs : List Value) (hown : w.ownsRow base e 1 v n xs) (s : ByteArray) (hl : n + s.size ≤ 140737488355328) (hbase : base ≤ w.heap.size) :
    ∃ v' w', (Builtin.append_ #[t, u] ty #[v, .string s]).run P w = .ok v' w' ∧ w'.ownsRow base e 1 v' (n + s.size) (xs ++ Lib.strCells s) ∧ w.grownBy w' v.ownBlock ∧
      (v'.ownBlock = v.ownBlock ∨ ∃ b, v'.ownBlock = some b ∧ w.heap.size ≤ b) := by
  obtain ⟨v', w', hr, h1, h2, h3⟩ := Lib.run_append_own_string (P := P) (w := w) base t u ty e i ht hu hi hz hsize hby v n xs hown s (by simp only [maxLen]; omega) hl hbase
  refine ⟨v', w', hr, h1, h2, ?_⟩
  have hxl : xs.length = n := by simpa using hown.1
  rcases hown.2 with ⟨rfl, rfl⟩ | ⟨g, cap, cur, rfl, hbg, hg, hnc, hcm, hcs, htake⟩
  · by_cases hm : s.size = 0
    · exact .inl (by rw [h3.2 ⟨rfl, hm⟩])
    · rw [run_append_nil_string (P := P) (w := w) t u ty e i (.int .u8 0) ht hu hi hz s (by omega) (by omega) (by rw [hby]; omega)] at hr
      injection hr with hr1 hr2
      exact .inr ⟨_, by rw [← hr1]; rfl, Nat.le_refl _⟩
  · have hcs' : cur.size = cap := by simpa using hcs
    by_cases hroom : n + s.size ≤ cap
    · rw [Lib.run_append_room_string (P := P) (w := w) t u ty e i ht hu hi hsize g n cap cur hg s hroom (by omega)] at hr
      injection hr with hr1 hr2
      exact .inl (by rw [← hr1]; rfl)
    · have holds : ∀ j u, xs[j]? = some u → w.cell? ((⟨g, 0, none⟩ : Addr).add j) = some u := hown.cells (g := g) rfl
      rw [Lib.run_append_grow_string (P := P) (w := w) t u ty e i (.int .u8 0) ht hu hi hz ⟨g, 0, none⟩ n cap xs (by rw [hsize]; simpa using hxl) holds s (by omega) (by omega) (by rw [hby]; exact growslice_fits (by omega) (by omega))] at hr
      injection hr with hr1 hr2
      exact .inr ⟨_, by rw [← hr1]; rfl, Nat.le_refl _⟩
/-- The same at an operation of a region, for bytes of the call's own. -/
theorem app_str_step {P : Program} {ops : Array Oper} {o : Oper} {a : Act} {Q : Exit → Act → World → Prop} {K : Act → World → Prop} {w : World} {N : Option Tmp} (base : Nat) (S : List Nat) (a0 : World) (sl x : Operand) (t u : TypeId) (i : TypeInfo)
    (hw : Region.wanted o (yielded ops a.tmps) = true) (hN : o.dst = N)
    (ho : o.op = .call { callee := .builtin .append, args := #[sl, x], argTypes := #[t, u] })
    (ht : P.underlying t = some (.slice 5)) (hu : P.underlying u = some .string) (hi : P.info? 5 = some i) (hz : i.zero = some (.int .u8 0)) (hsize : i.size = 1) (hby : i.bytes = 1)
    (v : Value) (xs : List Int) (s : ByteArray) (hs : a.eval sl = v) (hx : a.eval x = .string s) (hR : Own w base (okS S a0) v xs) (hT : Tu S a0 w) (hB : Below base a0 w) (hl : xs.length + s.size ≤ 140737488355328) (hbase : base ≤ a0.heap.size)
    (h : ∀ v1 w1, Own w1 base (okS S a0) v1 (xs ++ bytesOf s) → Tu S a0 w1 → Below base a0 w1 → K (a.put N v1) w1) :
    if Region.wanted o (yielded ops a.tmps) = true then Oper.wp P o a w K Q else K (a.put N undef) w := by
  rw [if_pos hw]
  subst hN
  have hown := Kd.own_of_R hR
  have hb' : base ≤ w.heap.size := Nat.le_trans hbase hT.size
  obtain ⟨v1, w1, hr, h1, h2, h3⟩ := app_str (P := P) (w := w) base t u o.type 5 i ht hu hi hz hsize hby v xs.length (encs (Value.int .u8) xs) hown s hl hb'
  have hc : encs (Value.int .u8) xs ++ Lib.strCells s = encs (Value.int .u8) (xs ++ bytesOf s) := by
    rw [encs_append]
    congr 1
    simp [encs, bytesOf, Lib.strCells]
  have hl2 : xs.length + s.size = (xs ++ bytesOf s).length := by rw [List.length_append, bytesOf_length]
  rw [hc, hl2] at h1
  have hS : ∀ k, v.ownBlock = some k → k ∈ S ∨ a0.heap.size ≤ k := hR.1
  unfold Oper.wp execOp
  simp only [ho, resolve, invoke, builtin, Sem.run_bind, Sem.run_pure, Result.andThen_ok, List.map_toArray, List.map_cons, List.map_nil, hs, hx, hr]
  refine h v1 w1 (Kd.R_of_own h1 ?_) (hT.grown h2 hS) (hB.grown h2 hb' (own_base hown))
  intro k hk
  rcases h3 with h3 | ⟨b, hb, hle⟩
  · exact hS k (h3 ▸ hk)
  · rw [hb] at hk
    injection hk with hk
    have := hT.size
    exact .inr (by omega)
end Go.Proofs.Ytpflenaoplblkaa.ProD
