import Derived.Test.YtpflenaoplblkaaProA
namespace Go.Proofs.Ytpflenaoplblkaa.ProB
open Go.RowKit Go.Proofs.YtpflenaoplblkaaW.PrintWords Go.Proofs.Ytpflenaoplblkaa.ProA
set_option linter.unusedVariables false
/-- blocks of S, or new since w -/
abbrev okS (S : List Nat) (w : World) (q : Nat) : Prop := q ∈ S ∨ w.heap.size ≤ q
/-- bytes of the call's own -/
abbrev Own (w : World) (base : Nat) (ok : Nat → Prop) (v : Value) (xs : List Int) : Prop := (Kd.int .u8).R 5 w base ok v xs
/-- a number's bytes, the highest first -/
def beB (n : Int) : Nat → List Int
  | 0 => []
  | k + 1 => n / 256 ^ k % 256 :: beB n k
theorem info5 : (Try.prog.info? 5).map (fun i => (i.zero, i.size, i.bytes)) = some (some (.int .u8 0), 1, 1) := by kernel_rfl
theorem pow256 (m : Nat) : (2 : Int) ^ (8 * (m + 1) - 8) = 256 ^ m := by
  have : 8 * (m + 1) - 8 = 8 * m := by omega
  rw [this, Int.pow_mul]; rfl
theorem beB_len (n : Int) (k : Nat) : (beB n k).length = k := by induction k with | zero => rfl | succ k ih => simp [beB, ih]
set_option maxHeartbeats 1000000 in
set_option maxRecDepth 100000 in
theorem put_ok (base : Nat) (S : List Nat) (v : Value) (xs : List Int) (n : Int) (k : Nat) (w : World) (hR : Own w base (okS S w) v xs) (hb : base ≤ w.heap.size) (h0 : 0 ≤ n) (hk1 : 1 ≤ k) (hk : k ≤ 4) (hl : xs.length ≤ 140737488350000) :
    Calls Try.prog 48 #[v, .int .i64 n, .int .i64 k] w fun e w' => ∃ v', e = .returned v' ∧ Own w' base (okS S w) v' (xs ++ beB n k) ∧ Tu S w w' ∧ Below base w w' := by
  go_enter Try.func48, Try.ntmps48
  go_wp2_with fail
  go_loopw [0, 7] (fun u s wr => ∃ (m : Nat) (t : Int) (ys : List Int), m ≤ k ∧ s = .int .i64 t ∧ t = 8 * (m : Int) - 8 ∧ Hid (Own wr base (okS S w) u ys) ∧ Hid (ys ++ beB n m = xs ++ beB n k) ∧ Hid (ys.length ≤ xs.length + 4) ∧ Hid (Tu S w wr) ∧ Hid (Below base w wr)) (fun _ s _ => (intOf s + 8).toNat)
  case atStart => exact ⟨k, _, xs, by omega, rfl, by omega, Lib.hid hR, Lib.hid rfl, Lib.hid (by omega), Lib.hid (Tu.refl _ _), Lib.hid (Below.refl _ _)⟩
  case round =>
    obtain ⟨m, t, ys, hm, rfl, ht, HR, HE, HL, HT, HB⟩ := hrel
    cases m with
    | zero =>
      have e1 : decide (t ≥ 0) = false := by simp; omega
      go_wp2_with fail
      go_ret
      refine ⟨_, rfl, ?_, HT.out, HB.out⟩
      rw [← HE.out]; simpa [beB] using HR.out
    | succ m =>
      have e1 : decide (t ≥ 0) = true := by simp; omega
      have HL' : ys.length ≤ xs.length + 4 - (m + 1) := by
        have := congrArg List.length HE.out
        simp [beB_len] at this
        omega
      go_wp2_with (first | ((with_reducible refine gate_builtin (b := .append) (xs := #[.tmp 15, .tmp 20]) rfl ?_); at_builtin; refine Kd.R_append (Kd.int .u8) (w0 := w) base rfl (.tmp 15) (.tmp 20) 22 5 (.int .u8 0) 1 rfl Try.underlying22 info5 rfl (by decide) (by omega) _ ys (n / 2 ^ (8 * (m + 1) - 8) % 256) [.int .u8 (n / 2 ^ (8 * (m + 1) - 8) % 256)] (okS S w) (fun _ => False) rfl rfl rfl (fun _ hk => hk.elim) (fun q hq => .inr (Nat.le_trans HT.out.size hq)) HR.out HB.out ?aB ?aL ?_; (case aB => exact Nat.le_trans hb HB.out.size); (case aL => omega); intro v1 wv ho hb1 hg hat; have HO := Lib.hid ho; have HV := Lib.hid hb1; have HT1 := Lib.hid (HT.out.grown hg (fun q hq => HR.out.1 q hq)); clear ho hb1 hg hat))
      refine ⟨⟨m, _, ys ++ [n / 2 ^ (8 * (m + 1) - 8) % 256], by omega, rfl, ?_, HO, Lib.hid ?_, Lib.hid (by simp; omega), HT1, HV⟩, by simp [intOf]; omega⟩
      · omega
      · rw [← HE.out]; simp [beB, pow256]
end Go.Proofs.Ytpflenaoplblkaa.ProB
