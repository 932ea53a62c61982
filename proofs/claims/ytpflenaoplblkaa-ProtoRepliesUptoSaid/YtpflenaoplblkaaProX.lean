import Derived.Test.YtpflenaoplblkaaProT
namespace Go.Proofs.Ytpflenaoplblkaa.ProX
open Go.RowKit Go.Proofs.YtpflenaoplblkaaW.PrintWords Go.Proofs.YtpflenaoplblkaaW.PrintLast Go.Proofs.Ytpflenaoplblkaa.ProA Go.Proofs.Ytpflenaoplblkaa.ProB Go.Proofs.Ytpflenaoplblkaa.ProC Go.Proofs.Ytpflenaoplblkaa.ProI Go.Proofs.Ytpflenaoplblkaa.ProD Go.Proofs.Ytpflenaoplblkaa.ProE Go.Proofs.Ytpflenaoplblkaa.ProF Go.Proofs.Ytpflenaoplblkaa.ProG Go.Proofs.Ytpflenaoplblkaa.ProH Go.Proofs.Ytpflenaoplblkaa.ProJ Go.Proofs.Ytpflenaoplblkaa.ProK Go.Proofs.Ytpflenaoplblkaa.ProL Go.Proofs.Ytpflenaoplblkaa.ProM Go.Proofs.Ytpflenaoplblkaa.ProN Go.Proofs.Ytpflenaoplblkaa.ProO Go.Proofs.Ytpflenaoplblkaa.ProP Go.Proofs.Ytpflenaoplblkaa.ProQ Go.Proofs.Ytpflenaoplblkaa.ProR Go.Proofs.Ytpflenaoplblkaa.ProS Go.Proofs.Ytpflenaoplblkaa.ProT
set_option linter.unusedVariables false
set_option linter.unusedSimpArgs false
/-! a frame ahead of more bytes -/
theorem len1_app (a b : List Int) (k : Nat) (h : k ≤ a.length) : len1 (a ++ b) k = len1 a k := by
  unfold len1
  rw [List.take_append_of_le_length h]
theorem cut_app {tab : List (List PS)} {a b : List Int} (h : cutS tab a ≠ .ok none) : cutS tab (a ++ b) = cutS tab a := by
  unfold cutS at h ⊢
  by_cases h1 : a.length < 4
  · rw [if_pos h1] at h; exact absurd rfl h
  rw [if_neg h1] at h
  rw [if_neg (by rw [List.length_append]; omega), if_neg h1, List.take_append_of_le_length (by omega)]
  by_cases h2 : be (a.take 4) < 1 ∨ 262400 < be (a.take 4)
  · rw [if_pos h2, if_pos h2]
  rw [if_neg h2] at h
  rw [if_neg h2, if_neg h2, len1_app a b 4 (by omega)]
  by_cases h3 : a.length < 4 + len1 a 4
  · rw [if_pos h3] at h; exact absurd rfl h
  rw [if_neg (by rw [List.length_append]; omega), if_neg h3, List.drop_append_of_le_length (by omega), List.take_append_of_le_length (by rw [List.length_drop]; omega)]
theorem feed_app {tab : List (List PS)} : ∀ (k : Nat) (a b : List Int), a.length < k →
    ((feedS tab a).2.1 = 0 → feedS tab (a ++ b) = ((feedS tab a).1 ++ (feedS tab ((feedS tab a).2.2 ++ b)).1, (feedS tab ((feedS tab a).2.2 ++ b)).2)) ∧
    ((feedS tab a).2.1 ≠ 0 → (feedS tab a).2.2 = [] ∧ feedS tab (a ++ b) = feedS tab a) := by
  intro k
  induction k with
  | zero => intro a b h; omega
  | succ k ih =>
    intro a b hl
    cases hc : cutS tab a with
    | error q =>
      have hc2 : cutS tab (a ++ b) = .error q := by rw [cut_app (by rw [hc]; simp), hc]
      rw [feedS_err hc, feedS_err hc2]
      have := cutS_err hc
      refine ⟨fun h => ?_, fun _ => ⟨rfl, rfl⟩⟩
      simp only at h
      omega
    | ok r =>
      cases r with
      | none =>
        rw [feedS_wait hc]
        exact ⟨fun _ => by simp, fun h => absurd rfl h⟩
      | some x =>
        obtain ⟨F, n⟩ := x
        obtain ⟨h1, h2, _⟩ := cutS_some hc
        have hc2 : cutS tab (a ++ b) = .ok (some (F, n)) := by rw [cut_app (by rw [hc]; simp), hc]
        have hd : (a ++ b).drop n = a.drop n ++ b := List.drop_append_of_le_length h2
        obtain ⟨i1, i2⟩ := ih (a.drop n) b (by rw [List.length_drop]; omega)
        rw [feedS_step hc, feedS_step hc2, hd]
        refine ⟨fun h => ?_, fun h => ?_⟩
        · simp only at h ⊢
          rw [i1 h]
          simp
        · simp only at h ⊢
          obtain ⟨j1, j2⟩ := i2 h
          exact ⟨j1, by rw [j2]⟩
/-! pick -/
def PickPost (n : Int) (w : World) (e : Ending) (w' : World) : Prop := ∃ r : Int, e = .returned (.int .i64 r) ∧ 0 ≤ r ∧ r < n ∧ w = w'
theorem pick_ok (c n : Int) (w : World) (hc : -9223372036854775808 ≤ c ∧ c ≤ 9223372036854775807) (hn : 1 ≤ n) (hn2 : n ≤ 1000000000) :
    Calls Try.prog 11 #[.int .i64 c, .int .i64 n] w (PickPost n w) := by
  have hn0 : (n == 0) = false := by rw [beq_eq_false_iff_ne]; omega
  by_cases h : c < 0
  · have d1 : decide (c < 0) = true := by simpa using h
    go_enter Try.func11, Try.ntmps11
    go_wp2_with fail
    go_ret
    refine ⟨_, rfl, ?_, ?_, rfl⟩
    all_goals rw [show -(c + 1).tmod n = (-(c + 1)) % n by rw [← Int.neg_tmod, Int.tmod_eq_emod_of_nonneg (by omega)]]
    · exact Int.emod_nonneg _ (by omega)
    · exact Int.emod_lt_of_pos _ (by omega)
  · have d1 : decide (c < 0) = false := by simpa using h
    go_enter Try.func11, Try.ntmps11
    go_wp2_with fail
    go_ret
    refine ⟨_, rfl, ?_, ?_, rfl⟩
    · exact Int.emod_nonneg _ (by omega)
    · exact Int.emod_lt_of_pos _ (by omega)
/-! same -/
set_option maxHeartbeats 2000000 in
set_option maxRecDepth 100000 in
theorem same_yes (M : S35) (A B : Option Addr) (n m c d : Nat) (w : World) (hA : BytesAt w A n M.f4) (hB : BytesAt w B m M.f4) :
    Calls Try.prog 14 #[.agg #[.int .i64 M.f0, .int .i64 M.f1, .string M.f2, .int .i64 M.f3, .slice A n c], .agg #[.int .i64 M.f0, .int .i64 M.f1, .string M.f2, .int .i64 M.f3, .slice B m d]] w fun e w' => e = .returned (.bool true) ∧ Below w.heap.size w w' := by
  have q1 : ∀ W : World, Below w.heap.size w W → (convert 22 9 (.slice A n c)).run Try.prog W = .ok (.string (strOfNums M.f4)) W := fun W h => Kd.C_string Try.underlying22 Try.underlying5 Try.underlying9 (BytesAt.below (B := 0) hA h)
  have q2 : ∀ W : World, Below w.heap.size w W → (convert 22 9 (.slice B m d)).run Try.prog W = .ok (.string (strOfNums M.f4)) W := fun W h => Kd.C_string Try.underlying22 Try.underlying5 Try.underlying9 (BytesAt.below (B := 0) hB h)
  have Q1 := Lib.hid q1
  have Q2 := Lib.hid q2
  clear q1 q2 hA hB
  go_enter Try.func14, Try.ntmps14
  have q1 := Q1.out ((w.alloc (Obj.cells #[.int .i64 M.f0, .int .i64 M.f1, .string M.f2, .int .i64 M.f3, .slice A n c] 35)).alloc (Obj.cells #[.int .i64 M.f0, .int .i64 M.f1, .string M.f2, .int .i64 M.f3, .slice B m d] 35)) (by go_grown)
  have q2 := Q2.out ((w.alloc (Obj.cells #[.int .i64 M.f0, .int .i64 M.f1, .string M.f2, .int .i64 M.f3, .slice A n c] 35)).alloc (Obj.cells #[.int .i64 M.f0, .int .i64 M.f1, .string M.f2, .int .i64 M.f3, .slice B m d] 35)) (by go_grown)
  go_wp2_with fail
  go_ret
  exact ⟨by simp, by go_grown⟩
end Go.Proofs.Ytpflenaoplblkaa.ProX
