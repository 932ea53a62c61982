import Derived.Shelf.GgClosure.StringsIndexFuncTop
import Derived.Test.YtpflenaoplblkaaProC
namespace Go.Proofs.Ytpflenaoplblkaa.ProI
open Go.Shelf Go.RowKit Go.Lib Go.Proofs Go.Proofs.Ytpflenaoplblkaa.ProA Go.Proofs.Ytpflenaoplblkaa.ProB Go.Proofs.Ytpflenaoplblkaa.ProC
set_option linter.unusedVariables false
def ren : Ren := ⟨fun x => match x with | 15 => 84 | 20 => 90 | n => n, fun x => match x with | 23 => 135 | n => n, fun x => x⟩
theorem lays : LaysGw.n15 Try.prog ren :=
  { mixed := by kernel_rfl, f15 := Try.func84, f20 := Try.func90,
    t0 := Try.underlying0, a0 := Try.isAgg0, z0 := Try.sizeOf0, v0 := Try.zeroValue0, i0 := by kernel_rfl,
    t3 := Try.underlying3, a3 := Try.isAgg3, z3 := Try.sizeOf3, v3 := Try.zeroValue3, i3 := by kernel_rfl,
    t4 := Try.underlying4, a4 := Try.isAgg4, z4 := Try.sizeOf4, v4 := Try.zeroValue4, i4 := by kernel_rfl,
    t9 := Try.underlying9, a9 := Try.isAgg9, z9 := Try.sizeOf9, v9 := Try.zeroValue9, i9 := by kernel_rfl,
    t21 := Try.underlying21, a21 := Try.isAgg21, z21 := Try.sizeOf21, v21 := Try.zeroValue21, i21 := by kernel_rfl,
    t23 := Try.underlying135, a23 := Try.isAgg135, z23 := Try.sizeOf135, v23 := Try.zeroValue135, i23 := by kernel_rfl }
/-- what may not stand in a name -/
def bad (r : Nat) : Bool := !(decide (97 ≤ r) && decide (r ≤ 122) || decide (48 ≤ r) && decide (r ≤ 57) || decide ((r : Int) = 45) || decide ((r : Int) = 95))
set_option maxHeartbeats 1000000 in
theorem isBad (w : World) : PredAt Try.prog 85 #[] encR bad w := fun W r _ => by
  unfold FnGives bad
  by_cases h1 : 97 ≤ r <;> by_cases h2 : r ≤ 122 <;> by_cases h3 : 48 ≤ r <;> by_cases h4 : r ≤ 57 <;> by_cases h5 : (r : Int) = 45 <;> by_cases h6 : (r : Int) = 95
  all_goals
    have z1 : (97 : Int) ≤ (r : Int) ↔ 97 ≤ r := by omega
    have z2 : (r : Int) ≤ 122 ↔ r ≤ 122 := by omega
    have z3 : (48 : Int) ≤ (r : Int) ↔ 48 ≤ r := by omega
    have z4 : (r : Int) ≤ 57 ↔ r ≤ 57 := by omega
    first
      | (exfalso; omega)
      | (go_enter Try.func85, Try.ntmps85
         go_wp2
         all_goals first | (exfalso; omega) | (go_ret; exact ⟨by simp [h1, h2, h3, h4, h5, h6], 0, rfl⟩))
theorem indexFunc_any (s : ByteArray) (w : World) : Calls Try.prog 84 #[.string s, .func (.func 85) #[] #[]] w fun e w' => e = .returned (.int .i64 (Lib.idxFunc bad true s)) ∧ Below w.heap.size w w' :=
  Any.strings_IndexFunc lays 85 #[] (enters_of Try.func85 (by kernel_rfl) rfl) _ s w (isBad w)
/-- may a text be a name? -/
def nameOk (s : ByteArray) : Bool := decide (Lib.idxFunc bad true s < 0) && decide (1 ≤ s.size) && decide (s.size ≤ 16)
set_option maxHeartbeats 1000000 in
theorem isName_any (s : ByteArray) (w : World) : Calls Try.prog 70 #[.string s] w fun e w' => e = .returned (.bool (nameOk s)) ∧ Below w.heap.size w w' := by
  unfold nameOk
  by_cases h1 : Lib.idxFunc bad true s < 0 <;> by_cases h2 : 1 ≤ s.size <;> by_cases h3 : s.size ≤ 16
  all_goals
    have z2 : (1 : Int) ≤ (s.size : Int) ↔ 1 ≤ s.size := by omega
    have z3 : (s.size : Int) ≤ 16 ↔ s.size ≤ 16 := by omega
    go_enter Try.func70, Try.ntmps70
    go_wp2_with (refine Calls.mono (indexFunc_any _ _) ?_; rintro e w2 ⟨rfl, hb⟩)
    all_goals first | (exfalso; omega) | (go_ret; exact ⟨by simp [h1, h2, h3], hb⟩)
end Go.Proofs.Ytpflenaoplblkaa.ProI
