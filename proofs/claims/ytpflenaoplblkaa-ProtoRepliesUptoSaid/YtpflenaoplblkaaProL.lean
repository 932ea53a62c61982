import Derived.Test.YtpflenaoplblkaaProK
import Derived.Defers
import Derived.Recover
namespace Go.Proofs.Ytpflenaoplblkaa.ProL
open Go.RowKit Go.Proofs.YtpflenaoplblkaaW.PrintWords Go.Proofs.YtpflenaoplblkaaW.PrintLast Go.Proofs.Ytpflenaoplblkaa.ProA Go.Proofs.Ytpflenaoplblkaa.ProB Go.Proofs.Ytpflenaoplblkaa.ProC Go.Proofs.Ytpflenaoplblkaa.ProI Go.Proofs.Ytpflenaoplblkaa.ProD Go.Proofs.Ytpflenaoplblkaa.ProE Go.Proofs.Ytpflenaoplblkaa.ProF Go.Proofs.Ytpflenaoplblkaa.ProG Go.Proofs.Ytpflenaoplblkaa.ProH Go.Proofs.Ytpflenaoplblkaa.ProJ Go.Proofs.Ytpflenaoplblkaa.ProK
set_option linter.unusedVariables false
set_option linter.unusedSimpArgs false
/-! what decode answers -/
def decParts : List PS → List Int → Flds → Except Int Flds
  | [], xs, F => if xs = [] then .ok F else .error 121
  | p :: ps, xs, F => match rdS p xs F with
    | none => .error 121
    | some (F', k) => if fitsS p F' then decParts ps (xs.drop k) F' else .error 123
def fd0 (k : Int) : Flds := ⟨k, 0, 0, 0, ByteArray.empty, []⟩
def decS (tab : List (List PS)) (xs : List Int) : Except Int Flds :=
  if xs.length < 1 then .error 121 else
  match tab[(be (xs.take 1)).toNat]? with
  | none => .error 122
  | some ps => if be (xs.take 1) < 1 then .error 122 else decParts ps (xs.drop 1) (fd0 (be (xs.take 1)))
set_option maxRecDepth 100000 in
/-- the deferred closure -/
theorem catch_panicking (g : Nat) (x c : Int) (older : List PanicEntry) (w : World) (h : Blk w g #[.int .i64 x] 28) :
    CallsD Try.prog 77 #[pt g] (.panicking ({ v := .iface 124 (.agg #[.int .i64 c]), recovered := false } :: older)) w fun e u' w' =>
      e = .returned (.tuple #[]) ∧ u' = .panicking ({ v := .iface 124 (.agg #[.int .i64 c]), recovered := true } :: older) ∧ Blk w' g #[.int .i64 c] 28 ∧ Tu [g] w w' := by
  have hc := Blk.cell (i := 0) h rfl
  have hz := Blk.frozen (i := 0) h
  refine callsD_of_wpS Try.func77 rfl fun c₀ cs hu => ?_
  apply wpS_seq
  apply wpS_region
  simp [wpOpsS, go_sem, recoverD, hu, Try.ntmps77, Exit.thenS]
  refine wpS_of_wp ?_
  show Code.wp Try.prog _ _ { tmps := #[pt g, undef, undef, undef, .iface 124 (.agg #[.int .i64 c]), undef, undef, undef, undef, undef, undef, undef], defers := [] } _
  have q1 : ∀ w, (binOp .eql 20 (.iface 124 (.agg #[.int .i64 c])) .nilIface).run Try.prog w = .ok (.bool false) w := fun w => by kernel_rfl
  have q2 : ∀ w, (Instr.typeAssert (.iface 124 (.agg #[.int .i64 c])) 20 124 true).run Try.prog w = .ok (.tuple #[.agg #[.int .i64 c], .bool true]) w := fun w => by kernel_rfl
  have k2 : Blk (w.alloc (.cells #[.int .i64 c] 124)) g #[.int .i64 x] 28 := blkOld h
  have hc2 := Blk.cell (i := 0) k2 rfl
  have hz2 := Blk.frozen (i := 0) k2
  have k3 := Blk.set (i := 0) k2 (.int .i64 c)
  have k4 := ((Tu.refl [g] w).alloc (.cells #[.int .i64 c] 124)).setCell (p := ⟨g, 0, none⟩) (.inl (by simp)) (.int .i64 c)
  go_wp2_with fail
  cases c₀
  simp_all [bodyPostS, results, Try.results77]
  exact k3
theorem catch_idle (g : Nat) (w : World) :
    CallsD Try.prog 77 #[pt g] .returning w fun e u' w' => e = .returned (.tuple #[]) ∧ u' = .returning ∧ w' = w := by
  refine callsD_of_wpS Try.func77 rfl fun c₀ cs hu => ?_
  apply wpS_seq
  apply wpS_region
  simp [wpOpsS, go_sem, recoverD, hu, Try.ntmps77, Exit.thenS]
  refine wpS_of_wp ?_
  show Code.wp Try.prog _ _ { tmps := #[pt g, undef, undef, undef, .nilIface, undef, undef, undef, undef, undef, undef, undef], defers := [] } _
  go_wp2
  cases c₀
  simp_all [bodyPostS, results, Try.results77]
end Go.Proofs.Ytpflenaoplblkaa.ProL
