import Derived.Test.YtpflenaoplblkaaProR
namespace Go.Proofs.Ytpflenaoplblkaa.ProS
open Go.RowKit Go.Proofs.YtpflenaoplblkaaW.PrintWords Go.Proofs.YtpflenaoplblkaaW.PrintLast Go.Proofs.Ytpflenaoplblkaa.ProA Go.Proofs.Ytpflenaoplblkaa.ProB Go.Proofs.Ytpflenaoplblkaa.ProC Go.Proofs.Ytpflenaoplblkaa.ProI Go.Proofs.Ytpflenaoplblkaa.ProD Go.Proofs.Ytpflenaoplblkaa.ProE Go.Proofs.Ytpflenaoplblkaa.ProF Go.Proofs.Ytpflenaoplblkaa.ProG Go.Proofs.Ytpflenaoplblkaa.ProH Go.Proofs.Ytpflenaoplblkaa.ProJ Go.Proofs.Ytpflenaoplblkaa.ProK Go.Proofs.Ytpflenaoplblkaa.ProL Go.Proofs.Ytpflenaoplblkaa.ProM Go.Proofs.Ytpflenaoplblkaa.ProN Go.Proofs.Ytpflenaoplblkaa.ProO Go.Proofs.Ytpflenaoplblkaa.ProP Go.Proofs.Ytpflenaoplblkaa.ProQ Go.Proofs.Ytpflenaoplblkaa.ProR
set_option linter.unusedVariables false
set_option linter.unusedSimpArgs false
/-! what DecodeReplies answers -/
def repL (tab : List (List PS)) : Nat → List Int → List Flds × Nat × Int
  | 0, b => ([], 0, 0)
  | k + 1, b => match cutS tab b with
    | .error q => ([], 0, q)
    | .ok none => ([], 0, 0)
    | .ok (some (F, n)) => (F :: (repL tab k (b.drop n)).1, n + (repL tab k (b.drop n)).2.1, (repL tab k (b.drop n)).2.2)
def repS (tab : List (List PS)) (b : List Int) : List Flds × Nat × Int := repL tab (b.length + 1) b
theorem repL_more {tab : List (List PS)} : ∀ (k : Nat) (b : List Int), b.length < k → repL tab (k + 1) b = repL tab k b := by
  intro k
  induction k with
  | zero => intro b h; omega
  | succ k ih =>
    intro b h
    rw [repL]
    conv => rhs; rw [repL]
    cases hc : cutS tab b with
    | error q => rfl
    | ok r =>
      cases r with
      | none => rfl
      | some x =>
        obtain ⟨F, n⟩ := x
        obtain ⟨h1, h2, _⟩ := cutS_some hc
        have : (b.drop n).length < k := by rw [List.length_drop]; omega
        simp only
        rw [ih _ this]
theorem repL_enough {tab : List (List PS)} (b : List Int) : ∀ (j : Nat), repL tab (b.length + 1 + j) b = repS tab b
  | 0 => rfl
  | j + 1 => by rw [show b.length + 1 + (j + 1) = (b.length + 1 + j) + 1 by omega, repL_more _ _ (by omega)]; exact repL_enough b j
theorem repS_err {tab : List (List PS)} {b : List Int} {q : Int} (h : cutS tab b = .error q) : repS tab b = ([], 0, q) := by
  unfold repS repL
  rw [h]
theorem repS_wait {tab : List (List PS)} {b : List Int} (h : cutS tab b = .ok none) : repS tab b = ([], 0, 0) := by
  unfold repS repL
  rw [h]
theorem repS_step {tab : List (List PS)} {b : List Int} {F : Flds} {n : Nat} (h : cutS tab b = .ok (some (F, n))) : repS tab b = (F :: (repS tab (b.drop n)).1, n + (repS tab (b.drop n)).2.1, (repS tab (b.drop n)).2.2) := by
  obtain ⟨h1, h2, _⟩ := cutS_some h
  conv => lhs; unfold repS repL
  rw [h]
  simp only
  have e : b.length = (b.drop n).length + 1 + (n - 1) := by rw [List.length_drop]; omega
  rw [e, repL_enough]
def RepPost (w : World) (r : List Flds × Nat × Int) (e : Ending) (w' : World) : Prop :=
  ∃ lv, e = .returned (.tuple #[lv, .int .i64 (r.2.1 : Int), .int .i64 r.2.2]) ∧ Kd.R k44 44 w' w.heap.size (fun _ => True) lv (r.1.map repOf) ∧ Below w.heap.size w w'
structure RepSt (w2 wr : World) (lv : Value) (ms : List Flds) (at_ : Nat) (all : List Int) : Prop where
  below : Below w2.heap.size w2 wr
  row : Kd.R k44 44 wr w2.heap.size (fun _ => True) lv (ms.map repOf)
  le : at_ ≤ all.length
  count : ms.length ≤ at_
  eq : repS repTab all = (ms ++ (repS repTab (all.drop at_)).1, at_ + (repS repTab (all.drop at_)).2.1, (repS repTab (all.drop at_)).2.2)
theorem rep_end {w w2 wr W' : World} {lv : Value} {ms : List Flds} {at_ : Nat} {code : Int} {all : List Int} (h : RepSt w2 wr lv ms at_ all) (h2 : Below w.heap.size w w2) (hB : Below wr.heap.size wr W') (hr : repS repTab (all.drop at_) = ([], 0, code)) :
    RepPost w (repS repTab all) (.returned (.tuple #[lv, .int .i64 (at_ : Int), .int .i64 code])) W' := by
  rw [h.eq, hr]
  refine ⟨lv, by simp, ?_, h2.trans ((h.below.trans (hB.mono h.below.size)).mono h2.size)⟩
  rw [List.append_nil]
  exact Kd.R_lower (Kd.R_below h.row hB) h2.size
theorem info44 : (Try.prog.info? 44).map (fun i => (i.zero, i.size, i.bytes)) = some (some (.agg #[.int .i64 0, .int .i64 0, .int .i64 0, .slice none 0 0]), 4, 48) := by kernel_rfl
set_option maxHeartbeats 4000000 in
set_option maxRecDepth 100000 in
theorem decodeReplies_ok (w : World) (c : Nat) (ys : List Int) (A : Option Addr)
    (hx : BytesAt w A ys.length ys) (hc : ys.length ≤ c) (hu : u8s ys) (hbig : ys.length ≤ 1000000000) :
    Calls Try.prog 17 #[.slice A ys.length c] w (RepPost w (repS repTab ys)) := by
  have HX := Lib.hid hx
  clear hx
  go_enter Try.func17, Try.ntmps17
  go_wp2_with fail
  refine (replies_ok w).mono ?_
  rintro e w2 ⟨tv, rfl, htab, hb2⟩
  have HTB := Lib.hid htab
  have hx2 := BytesAt.below (B := 0) HX.out hb2
  have HX2 := Lib.hid hx2
  have hs2 := hb2.size
  have HB2 := Lib.hid hb2
  have HS := Lib.hid (show RepSt w2 w2 (.slice none 0 0) [] 0 ys from ⟨Below.refl _ _, Kd.R_nil _ _ _ _ _, by omega, by simp, by simp⟩)
  clear htab hx2 hb2
  go_wp2_with fail
  go_loopw [5, 6] (fun l t wr => ∃ (ms : List Flds) (at_ : Nat), at_ ≤ ys.length ∧ t = .int .i64 (at_ : Int) ∧ Hid (RepSt w2 wr l ms at_ ys)) (fun _ t _ => ys.length - (intOf t).toNat)
  case atStart => exact ⟨[], 0, by omega, rfl, HS⟩
  case round =>
    clear HS
    obtain ⟨ms, at_, hle, rfl, HS⟩ := hrel
    obtain ⟨i5, hi5, hz5⟩ := info5'
    obtain ⟨A2, hrun, hread, hcap⟩ := print_drop_of (P := Try.prog) (Value.int .u8) (0 : Int) 22 5 .i64 Try.underlying22 hi5 hz5 A c ys (at_ : Int) (by omega) (by omega) hc
    rw [Int.toNat_natCast] at hrun hread hcap
    have HRD := Lib.hid (BytesAt.of (hread w2 (BytesAt.nums HX2.out)))
    have HCP := Lib.hid hcap
    clear hread hcap hi5 hz5
    have hdl : (ys.drop at_).length = ys.length - at_ := List.length_drop
    go_wp2_with fail
    rw [← hdl]
    refine (cut_ok repTab wr w.heap.size w2.heap.size (c - at_) tv A2 (ys.drop at_) (HTB.out.step (fun q _ hq => HS.out.below.block q hq) (Nat.le_refl _) (Nat.le_refl _)) HS.out.below.size repTab_ok (BytesAt.below (B := 0) HRD.out HS.out.below) (u8_drop hu at_) HCP.out (by omega)).mono ?_
    rintro e w3 ⟨F, B', m, cc, size, code, rfl, hb3, hcase⟩
    unfold Flds.cells
    have hb4 := HS.out.below.trans (hb3.mono HS.out.below.size)
    have HB3 := Lib.hid hb3
    have HB4 := Lib.hid hb4
    clear hb3 hb4 hrun hdl
    cases hcut : cutS repTab (ys.drop at_) with
    | error q =>
      rw [hcut] at hcase
      obtain rfl : code = q := hcase
      have dq : (code != 0) = true := by
        rcases cutS_err hcut with h | h | h <;> rw [h] <;> rfl
      have HC := Lib.hid hcut
      clear hcut
      go_wp2_with fail
      refine bodyPost_ret (v := .tuple #[u5, .int .i64 (at_ : Int), .int .i64 code]) (by simp [results, Try.results17, go_sem]) rfl ?_
      exact rep_end HS.out HB2.out (HB3.out.alloc HB3.out.size _) (repS_err HC.out)
    | ok r =>
      cases r with
      | none =>
        rw [hcut] at hcase
        obtain ⟨rfl, rfl⟩ := hcase
        have HC := Lib.hid hcut
        clear hcut
        go_wp2_with fail
        refine bodyPost_ret (v := .tuple #[u5, .int .i64 (at_ : Int), .int .i64 0]) (by simp [results, Try.results17, go_sem]) rfl ?_
        exact rep_end HS.out HB2.out (HB3.out.alloc HB3.out.size _) (repS_wait HC.out)
      | some x =>
        obtain ⟨F', n'⟩ := x
        rw [hcut] at hcase
        obtain ⟨rfl, rfl, hF, ho3⟩ := hcase
        subst hF
        obtain ⟨hn1, hn2, hn3⟩ := cutS_some hcut
        rw [List.length_drop] at hn2
        have dn : ((n' : Int) == 0) = false := by simp; omega
        have hst := HS.out
        have hct := hst.count
        have HC := Lib.hid hcut
        have HO3 := Lib.hid ho3
        clear hcut ho3 hst
        go_wp2_with (first
          | (refine (reply_any F B' m cc _).mono ?_; rintro e w4 ⟨rfl, hb4⟩; have HB5 := Lib.hid (show Below w3.heap.size w3 w4 from (ba _).trans (hb4.mono (by simp))); clear hb4)
          | ((with_reducible refine gate_builtin (b := .append) (xs := #[.tmp 30, .tmp 33]) rfl ?_); at_builtin; refine Kd.R_append k44 (w0 := w2) w2.heap.size rfl (.tmp 30) (.tmp 33) 41 44 (.agg #[.int .i64 0, .int .i64 0, .int .i64 0, .slice none 0 0]) 48 rfl Try.underlying41 info44 rfl (by decide) (by omega) u5 (ms.map repOf) (repOf F) [.int .i64 F.kind, .int .i64 F.n, .int .i64 F.m, .slice B' m cc] (fun _ => True) (fun k => wr.heap.size ≤ k) rfl rfl ?hp ?hokp (fun _ _ => trivial) ?hrow ?hbel ?hbase ?hl ?_; (case hp => exact k44_mkM _ _ _ (repOf F) (Kd.R_lower (Kd.R_mono (Kd.R_bound (Kd.R_below HO3.out HB5.out)) (fun k hk => hk.2.1)) HS.out.below.size)); (case hokp => exact fun k hk => ⟨trivial, fun e => by obtain ⟨inner, ho⟩ := Kd.R_own HS.out.row; have := own_lt ho k e.symm; omega⟩); (case hrow => exact Kd.R_below (Kd.R_below HS.out.row HB3.out) HB5.out); (case hbel => exact HS.out.below.trans ((HB3.out.trans (HB5.out.mono HB3.out.size)).mono HS.out.below.size)); (case hbase => have h1 := HS.out.below.size; have h2 := HB3.out.size; have h3 := HB5.out.size; omega); (case hl => rw [List.length_map]; omega); intro v1 w5 hr5 hb5 hg5 hat5; have HR5 := Lib.hid hr5; have HB6 := Lib.hid hb5; clear hr5 hb5 hg5 hat5))
        refine ⟨⟨ms ++ [F], at_ + n', by omega, by go_num, Lib.hid ?_⟩, by simp [intOf]; omega⟩
        have hst := HS.out
        refine ⟨HB6.out, by rw [List.map_append]; exact HR5.out, by omega, by rw [show (ms ++ [F]).length = ms.length + 1 by simp]; omega, ?_⟩
        rw [hst.eq, repS_step HC.out, List.drop_drop]
        simp [Nat.add_assoc]
end Go.Proofs.Ytpflenaoplblkaa.ProS
