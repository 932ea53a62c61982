import Derived.Test.YtpflenaoplblkaaProF
import Derived.Laws.EntriesVeiled
namespace Go.Proofs.Ytpflenaoplblkaa.ProG
open Go.RowKit Go.Proofs.YtpflenaoplblkaaW.PrintWords Go.Proofs.YtpflenaoplblkaaW.PrintLast Go.Proofs.Ytpflenaoplblkaa.ProA Go.Proofs.Ytpflenaoplblkaa.ProB Go.Proofs.Ytpflenaoplblkaa.ProC Go.Proofs.Ytpflenaoplblkaa.ProI Go.Proofs.Ytpflenaoplblkaa.ProD Go.Proofs.Ytpflenaoplblkaa.ProE Go.Proofs.Ytpflenaoplblkaa.ProF
set_option linter.unusedVariables false
set_option linter.unusedSimpArgs false
/-- which number of fields -/
inductive Wh | tn | n | m
def Wh.fn : Wh → FuncId | .tn => 41 | .n => 44 | .m => 49
/-- a part: a number of k bytes from lo to hi; a name; a blob -/
inductive PS | num (o : Wh) (k : Nat) (lo hi : Int) | name | blob (hi : Int)
abbrev fnv (F : FuncId) (cap : Array Value) : Value := .func (Fn.func F) #[] cap
/-- a part's value; what it has captured lies in the blocks from lo to hi -/
def PartAt (w : World) (lo hi : Nat) (v : Value) : PS → Prop
  | .num o k l h => ∃ a4 a5 a6 a7, v = .agg #[fnv 63 #[pt a4, pt a7], fnv 64 #[pt a7, pt a5, pt a6], fnv 65 #[pt a7, pt a4], fnv 66 #[pt a7]] ∧
      (lo ≤ a4 ∧ a4 < hi ∧ lo ≤ a5 ∧ a5 < hi ∧ lo ≤ a6 ∧ a6 < hi ∧ lo ≤ a7 ∧ a7 < hi) ∧
      Blk w a4 #[.int .i64 k] 3 ∧ Blk w a5 #[.int .i64 l] 3 ∧ Blk w a6 #[.int .i64 h] 3 ∧ Blk w a7 #[fnv o.fn #[]] 93
  | .name => v = .agg #[fnv 67 #[], fnv 69 #[], fnv 71 #[], fnv 72 #[]]
  | .blob h => ∃ a, v = .agg #[fnv 73 #[], fnv 74 #[pt a], fnv 75 #[], fnv 76 #[]] ∧ (lo ≤ a ∧ a < hi) ∧ Blk w a #[.int .i64 h] 3
theorem PartAt.agg {w : World} {lo hi : Nat} {v : Value} {p : PS} (h : PartAt w lo hi v p) : ∃ f0 f1 f2 f3, v = .agg #[f0, f1, f2, f3] := by
  cases p with
  | num o k l h' => obtain ⟨a4, a5, a6, a7, rfl, _⟩ := h; exact ⟨_, _, _, _, rfl⟩
  | name => exact ⟨_, _, _, _, h⟩
  | blob h' => obtain ⟨a, rfl, _⟩ := h; exact ⟨_, _, _, _, rfl⟩
theorem Blk.below {w w' : World} {g : Nat} {cs : Array Value} {t : TypeId} (h : Blk w g cs t) (hb : Below w.heap.size w w') : Blk w' g cs t := (hb.block g h.lt).trans h
theorem PartAt.step {w w' : World} {lo hi lo' hi' : Nat} {v : Value} {p : PS} (h : PartAt w lo hi v p) (hb : ∀ k, lo ≤ k → k < hi → w'.heap[k]? = w.heap[k]?) (h1 : lo' ≤ lo) (h2 : hi ≤ hi') : PartAt w' lo' hi' v p := by
  cases p with
  | num o k l h' =>
    obtain ⟨a4, a5, a6, a7, rfl, ⟨q1, q2, q3, q4, q5, q6, q7, q8⟩, b1, b2, b3, b4⟩ := h
    exact ⟨_, _, _, _, rfl, by omega, (hb _ q1 q2).trans b1, (hb _ q3 q4).trans b2, (hb _ q5 q6).trans b3, (hb _ q7 q8).trans b4⟩
  | name => exact h
  | blob h' =>
    obtain ⟨a, rfl, ⟨q1, q2⟩, b1⟩ := h
    exact ⟨_, rfl, by omega, (hb _ q1 q2).trans b1⟩
theorem PartAt.below {w w' : World} {lo hi lo' hi' : Nat} {v : Value} {p : PS} (h : PartAt w lo hi v p) (hb : Below w.heap.size w w') (hw : hi ≤ w.heap.size) (h1 : lo' ≤ lo) (h2 : hi ≤ hi') : PartAt w' lo' hi' v p :=
  h.step (fun k _ hk => hb.block k (by omega)) h1 h2
theorem hmf (fn : Fn) (first cap : Array Value) (w : World) : (Instr.makeFunc fn first cap).run Try.prog w = .ok (.func fn first cap) w := rfl
theorem blkNew {w : World} {g : Nat} {cs : Array Value} {t : TypeId} (h : g = w.heap.size) : Blk (w.alloc (.cells cs t)) g cs t := by
  subst h
  exact heap_alloc_new w _
theorem blkOld {w : World} {g : Nat} {cs : Array Value} {t : TypeId} {o : Obj} (h : Blk w g cs t) : Blk (w.alloc o) g cs t := (Below.heap_alloc w o g h.lt).trans h
set_option maxHeartbeats 1000000 in
theorem number_ok (o : Wh) (k : Nat) (l h : Int) (w : World) :
    Calls Try.prog 40 #[.int .i64 k, .int .i64 l, .int .i64 h, fnv o.fn #[]] w fun e w' => ∃ v, e = .returned v ∧ PartAt w' w.heap.size w'.heap.size v (.num o k l h) ∧ Below w.heap.size w w' := by
  have hm := hmf
  go_enter Try.func40, Try.ntmps40
  go_wp2
  go_returns
  refine ⟨_, rfl, ⟨_, _, _, _, rfl, by simp; omega, ?_, ?_, ?_, ?_⟩, by go_grown⟩
  · exact blkOld (blkOld (blkOld (blkOld (blkNew rfl))))
  · exact blkOld (blkOld (blkOld (blkNew (by simp))))
  · exact blkOld (blkOld (blkNew (by simp)))
  · exact blkOld (blkNew (by simp))
theorem name_ok (w : World) : Calls Try.prog 42 #[] w fun e w' => ∃ v, e = .returned v ∧ PartAt w' w.heap.size w'.heap.size v .name ∧ Below w.heap.size w w' := by
  have hm := hmf
  go_enter Try.func42, Try.ntmps42
  go_wp2
  go_returns
  exact ⟨_, rfl, rfl, by go_grown⟩
theorem blob_ok (h : Int) (w : World) : Calls Try.prog 43 #[.int .i64 h] w fun e w' => ∃ v, e = .returned v ∧ PartAt w' w.heap.size w'.heap.size v (.blob h) ∧ Below w.heap.size w w' := by
  have hm := hmf
  go_enter Try.func43, Try.ntmps43
  go_wp2
  go_returns
  refine ⟨_, rfl, ⟨_, rfl, by simp; omega, ?_⟩, by go_grown⟩
  exact blkOld (blkNew rfl)
end Go.Proofs.Ytpflenaoplblkaa.ProG
