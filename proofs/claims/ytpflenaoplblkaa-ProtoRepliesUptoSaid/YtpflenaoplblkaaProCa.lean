import Derived.Test.YtpflenaoplblkaaProBb
namespace Go.Proofs.Ytpflenaoplblkaa.ProCa
open Go.RowKit Go.Proofs.YtpflenaoplblkaaW.PrintWords Go.Proofs.YtpflenaoplblkaaW.PrintLast Go.Proofs.Ytpflenaoplblkaa.ProA Go.Proofs.Ytpflenaoplblkaa.ProB Go.Proofs.Ytpflenaoplblkaa.ProC Go.Proofs.Ytpflenaoplblkaa.ProI Go.Proofs.Ytpflenaoplblkaa.ProD Go.Proofs.Ytpflenaoplblkaa.ProE Go.Proofs.Ytpflenaoplblkaa.ProF Go.Proofs.Ytpflenaoplblkaa.ProG Go.Proofs.Ytpflenaoplblkaa.ProH Go.Proofs.Ytpflenaoplblkaa.ProJ Go.Proofs.Ytpflenaoplblkaa.ProK Go.Proofs.Ytpflenaoplblkaa.ProL Go.Proofs.Ytpflenaoplblkaa.ProM Go.Proofs.Ytpflenaoplblkaa.ProN Go.Proofs.Ytpflenaoplblkaa.ProO Go.Proofs.Ytpflenaoplblkaa.ProP Go.Proofs.Ytpflenaoplblkaa.ProQ Go.Proofs.Ytpflenaoplblkaa.ProR Go.Proofs.Ytpflenaoplblkaa.ProS Go.Proofs.Ytpflenaoplblkaa.ProT Go.Proofs.Ytpflenaoplblkaa.ProU Go.Proofs.Ytpflenaoplblkaa.ProV Go.Proofs.Ytpflenaoplblkaa.ProX Go.Proofs.Ytpflenaoplblkaa.ProZ Go.Proofs.Ytpflenaoplblkaa.ProBa
set_option linter.unusedVariables false
set_option linter.unusedSimpArgs false
/-! what ProtoReplies wants besides -/
set_option maxHeartbeats 2000000 in
set_option maxRecDepth 100000 in
theorem sameReply_yes (M : S44) (A B : Option Addr) (n m c d : Nat) (w : World) (hA : BytesAt w A n M.f3) (hB : BytesAt w B m M.f3) :
    Calls Try.prog 18 #[.agg #[.int .i64 M.f0, .int .i64 M.f1, .int .i64 M.f2, .slice A n c], .agg #[.int .i64 M.f0, .int .i64 M.f1, .int .i64 M.f2, .slice B m d]] w fun e w' => e = .returned (.bool true) ∧ Below w.heap.size w w' := by
  have q1 : ∀ W : World, Below w.heap.size w W → (convert 22 9 (.slice A n c)).run Try.prog W = .ok (.string (strOfNums M.f3)) W := fun W h => Kd.C_string Try.underlying22 Try.underlying5 Try.underlying9 (BytesAt.below (B := 0) hA h)
  have q2 : ∀ W : World, Below w.heap.size w W → (convert 22 9 (.slice B m d)).run Try.prog W = .ok (.string (strOfNums M.f3)) W := fun W h => Kd.C_string Try.underlying22 Try.underlying5 Try.underlying9 (BytesAt.below (B := 0) hB h)
  have Q1 := Lib.hid q1
  have Q2 := Lib.hid q2
  clear q1 q2 hA hB
  go_enter Try.func18, Try.ntmps18
  have q1 := Q1.out ((w.alloc (Obj.cells #[.int .i64 M.f0, .int .i64 M.f1, .int .i64 M.f2, .slice A n c] 44)).alloc (Obj.cells #[.int .i64 M.f0, .int .i64 M.f1, .int .i64 M.f2, .slice B m d] 44)) (by go_grown)
  have q2 := Q2.out ((w.alloc (Obj.cells #[.int .i64 M.f0, .int .i64 M.f1, .int .i64 M.f2, .slice A n c] 44)).alloc (Obj.cells #[.int .i64 M.f0, .int .i64 M.f1, .int .i64 M.f2, .slice B m d] 44)) (by go_grown)
  go_wp2_with fail
  go_ret
  exact ⟨by simp, by go_grown⟩
theorem at_KR {w0 w : World} {A : Option Addr} {n : Nat} {xs : List S44} (h : Kd.C (kAt k44 w0) w A n xs) (i : Int) (h0 : 0 ≤ i) (h1 : i < n) : ∃ ad A3 c3, A = some ad ∧ w.cell? (ad.add (i.toNat * 4)) = some (.int .i64 (rd_T44 xs i).f0) ∧ w.cell? ⟨(ad.add (i.toNat * 4)).block, (ad.add (i.toNat * 4)).off + 1, none⟩ = some (.int .i64 (rd_T44 xs i).f1) ∧ w.cell? ⟨(ad.add (i.toNat * 4)).block, (ad.add (i.toNat * 4)).off + 2, none⟩ = some (.int .i64 (rd_T44 xs i).f2) ∧ w.cell? ⟨(ad.add (i.toNat * 4)).block, (ad.add (i.toNat * 4)).off + 3, none⟩ = some (.slice A3 (rd_T44 xs i).f3.length c3) ∧ (rd_T44 xs i).f3.length ≤ c3 ∧ (Kd.int .u8).C w0 A3 (rd_T44 xs i).f3.length (rd_T44 xs i).f3 := by
  obtain ⟨ad, c, e, _, hK, hc0⟩ := Kd.C_get h z44 i h0 h1
  have hc : ∀ j u, c[j]? = some u → w.cell? (ad.add (i.toNat * 4 + j)) = some u := hc0
  have hK' : k44.K w0 (rd_T44 xs i) c := hK
  obtain ⟨A3, c3, rfl, l3, g3⟩ := k44_open hK'
  exact ⟨ad, A3, c3, e, hc 0 _ rfl, by rw [← add_field _ _ 1 (by omega)]; exact hc 1 _ rfl, by rw [← add_field _ _ 2 (by omega)]; exact hc 2 _ rfl, by rw [← add_field _ _ 3 (by omega)]; exact hc 3 _ rfl, l3, g3⟩
theorem R_kAt {w0 w : World} {A : Option Addr} {n : Nat} {xs : List S44} (h : Kd.C k44 w0 A n xs) (hb : Below w0.heap.size w0 w) : Kd.C (kAt k44 w0) w A n xs := ReadsRow.imp_ h hb (fun _ _ hp => hp)
/-- the replies of frames one behind the other, the last one cut short -/
theorem rep_all {tab : List (List PS)} (ht : TabBack tab) : ∀ (l : List Flds) (bss : List (List Int)) (c : List Int), l.map (encS tab) = bss.map .ok → repS tab (bss.flatten ++ c) = (l ++ (repS tab c).1, bss.flatten.length + (repS tab c).2.1, (repS tab c).2.2) := by
  intro l
  induction l with
  | nil =>
    intro bss c h
    cases bss with
    | nil => simp
    | cons b bs => simp at h
  | cons F l ih =>
    intro bss c h
    cases bss with
    | nil => simp at h
    | cons b bs =>
      simp only [List.map_cons, List.cons.injEq] at h
      have hc := enc_cut h.1 ht (bs.flatten ++ c)
      rw [List.flatten_cons, List.append_assoc, repS_step hc, List.drop_left' rfl, ih bs c h.2]
      simp [Nat.add_assoc]
end Go.Proofs.Ytpflenaoplblkaa.ProCa
