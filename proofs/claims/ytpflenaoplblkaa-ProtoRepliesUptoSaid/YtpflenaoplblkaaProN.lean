import Derived.Test.YtpflenaoplblkaaProM
import Derived.Deep.Cut
namespace Go.Proofs.Ytpflenaoplblkaa.ProN
open Go.RowKit Go.Proofs.YtpflenaoplblkaaW.PrintWords Go.Proofs.YtpflenaoplblkaaW.PrintLast Go.Proofs.Ytpflenaoplblkaa.ProA Go.Proofs.Ytpflenaoplblkaa.ProB Go.Proofs.Ytpflenaoplblkaa.ProC Go.Proofs.Ytpflenaoplblkaa.ProI Go.Proofs.Ytpflenaoplblkaa.ProD Go.Proofs.Ytpflenaoplblkaa.ProE Go.Proofs.Ytpflenaoplblkaa.ProF Go.Proofs.Ytpflenaoplblkaa.ProG Go.Proofs.Ytpflenaoplblkaa.ProH Go.Proofs.Ytpflenaoplblkaa.ProJ Go.Proofs.Ytpflenaoplblkaa.ProK Go.Proofs.Ytpflenaoplblkaa.ProL Go.Proofs.Ytpflenaoplblkaa.ProM
set_option linter.unusedVariables false
set_option linter.unusedSimpArgs false
/-- a table as cut, encode and decode want it -/
structure TabOk (tab : List (List PS)) : Prop where
  small : ∀ ps ∈ tab, ∀ p ∈ ps, psmall p
  len : ∀ ps ∈ tab, ps.length ≤ 1000
  most : tab.length ≤ 1000
theorem msgTab_ok : TabOk msgTab := ⟨by simp [msgTab, psmall], by simp [msgTab], by simp [msgTab]⟩
theorem repTab_ok : TabOk repTab := ⟨by simp [repTab, psmall], by simp [repTab], by simp [repTab]⟩
/-- what cut answers -/
def cutS (tab : List (List PS)) (xs : List Int) : Except Int (Option (Flds × Nat)) :=
  if xs.length < 4 then .ok none else
  if be (xs.take 4) < 1 ∨ 262400 < be (xs.take 4) then .error 121 else
  if xs.length < 4 + len1 xs 4 then .ok none else
  match decS tab ((xs.drop 4).take (len1 xs 4)) with
  | .error q => .error q
  | .ok F => .ok (some (F, 4 + len1 xs 4))
/-- how cut ends -/
def CutPost (w : World) (r : Except Int (Option (Flds × Nat))) (e : Ending) (w' : World) : Prop :=
  ∃ (F : Flds) (B : Option Addr) (m c : Nat) (size code : Int), e = .returned (.tuple #[.agg (Flds.cells F (.slice B m c)), .int .i64 size, .int .i64 code]) ∧ Below w.heap.size w w' ∧
    match r with
    | .error q => code = q
    | .ok none => code = 0 ∧ size = 0
    | .ok (some (F', k)) => code = 0 ∧ size = k ∧ F = F' ∧ Own w' w.heap.size (fun _ => True) (.slice B m c) F.data
theorem BytesAt.lt {w : World} {A : Option Addr} {n : Nat} {xs : List Int} (h : BytesAt w A n xs) (hn : 0 < n) : ∀ a, A = some a → a.block < w.heap.size := by
  intro a ha
  obtain ⟨ad, e, hc⟩ := BytesAt.at_ h 0 hn
  rw [ha] at e
  injection e with e
  subst e
  have := World.block_lt_of_cell? w _ hc
  rwa [Addr.add_zero'] at this
theorem BytesAt.nums {w : World} {A : Option Addr} {n : Nat} {xs : List Int} (h : BytesAt w A n xs) : ReadsInt w .u8 A n xs := Kd.reads_of_C (enc := Value.int .u8) (d := (0 : Int)) (h1 := fun _ => rfl) h
theorem BytesAt.of {w : World} {A : Option Addr} {n : Nat} {xs : List Int} (h : ReadsInt w .u8 A n xs) : BytesAt w A n xs := Kd.C_of_reads h
theorem u8_take {xs : List Int} (h : u8s xs) (k : Nat) : u8s (xs.take k) := fun x hx => h x (List.mem_of_mem_take hx)
theorem info5' : ∃ i, Try.prog.info? 5 = some i ∧ i.size = 1 := by
  obtain ⟨i, h1, h2⟩ := Option.map_eq_some_iff.1 info5
  simp only [Prod.mk.injEq] at h2
  exact ⟨i, h1, h2.2.1⟩
theorem cut_wait {w w' : World} {r : Except Int (Option (Flds × Nat))} (hr : r = .ok none) (hb : Below w.heap.size w w') : CutPost w r (.returned (.tuple #[.agg (Flds.cells (fd0 0) (.slice none 0 0)), .int .i64 0, .int .i64 0])) w' := by
  subst hr
  exact ⟨_, _, _, _, _, _, rfl, hb, rfl, rfl⟩
theorem cut_err {w w' : World} {r : Except Int (Option (Flds × Nat))} {F : Flds} {B : Option Addr} {m c : Nat} {q size : Int} (hr : r = .error q) (hb : Below w.heap.size w w') : CutPost w r (.returned (.tuple #[.agg (Flds.cells F (.slice B m c)), .int .i64 size, .int .i64 q])) w' := by
  subst hr
  exact ⟨_, _, _, _, _, _, rfl, hb, rfl⟩
theorem fd_set6 {W : World} {g : Nat} {F F' : Flds} {dv dv' : Value} (h : FdAt W g F dv) : FdAt ((((((W.setCell ⟨g, 0, none⟩ (.int .i64 F'.kind)).setCell ⟨g, 1, none⟩ (.int .i64 F'.tn)).setCell ⟨g, 2, none⟩ (.int .i64 F'.n)).setCell ⟨g, 3, none⟩ (.int .i64 F'.m)).setCell ⟨g, 4, none⟩ (.string F'.name)).setCell ⟨g, 5, none⟩ dv') g F' dv' := by
  have h1 := Blk.set (i := 5) (Blk.set (i := 4) (Blk.set (i := 3) (Blk.set (i := 2) (Blk.set (i := 1) (Blk.set (i := 0) h (.int .i64 F'.kind)) (.int .i64 F'.tn)) (.int .i64 F'.n)) (.int .i64 F'.m)) (.string F'.name)) dv'
  exact h1
theorem tu_set6 (W : World) (g : Nat) (F' : Flds) (dv' : Value) : Tu [g] W ((((((W.setCell ⟨g, 0, none⟩ (.int .i64 F'.kind)).setCell ⟨g, 1, none⟩ (.int .i64 F'.tn)).setCell ⟨g, 2, none⟩ (.int .i64 F'.n)).setCell ⟨g, 3, none⟩ (.int .i64 F'.m)).setCell ⟨g, 4, none⟩ (.string F'.name)).setCell ⟨g, 5, none⟩ dv') :=
  ((((((Tu.refl _ _).setCell (.inl (by simp)) _).setCell (.inl (by simp)) _).setCell (.inl (by simp)) _).setCell (.inl (by simp)) _).setCell (.inl (by simp)) _).setCell (.inl (by simp)) _
theorem cut_end {R : Ending → World → Prop} (T : Array Value) (f : Nat) (size code : Int) (h4 : T[4]?.getD undef = pt f) (h5 : T[5]?.getD undef = .int .i64 size) (h6 : T[6]?.getD undef = .int .i64 code) (W : World) (F : Flds) (dv : Value) (hf : FdAt W f F dv)
    (hR : R (.returned (.tuple #[.agg (Flds.cells F dv), .int .i64 size, .int .i64 code])) W) :
    bodyPost Try.prog Try.f24 R Exit.ret { tmps := T, defers := [] } W := by
  obtain ⟨c0, c1, c2, c3, c4, c5⟩ := fdCells hf
  exact bodyPost_ret (v := .tuple #[.agg (Flds.cells F dv), .int .i64 size, .int .i64 code]) (by simp [results, Try.results24, go_sem, h4, h5, h6, c0, c1, c2, c3, c4, c5, Flds.cells]) rfl hR
set_option maxHeartbeats 4000000 in
set_option maxRecDepth 100000 in
theorem cut_ok (tab : List (List PS)) (w : World) (lo hi c : Nat) (tv : Value) (A : Option Addr) (xs : List Int)
    (ht : TabAt w lo hi tv tab) (hhi : hi ≤ w.heap.size) (hs : TabOk tab) (hx : BytesAt w A xs.length xs) (hu : u8s xs) (hc : xs.length ≤ c) (hbig : xs.length ≤ 140737488350000) :
    Calls Try.prog 24 #[tv, .slice A xs.length c] w (CutPost w (cutS tab xs)) := by
  obtain ⟨tg, tc, rfl, htg⟩ := id ht
  clear htg
  have HT := Lib.hid ht
  have HX := Lib.hid hx
  clear ht hx
  by_cases h4 : xs.length < 4
  · have d1 : decide ((xs.length : Int) < 4) = true := by simp; omega
    have hr : cutS tab xs = .ok none := by unfold cutS; rw [if_pos (by omega)]
    have HR := Lib.hid hr
    clear hr
    go_enter Try.func24, Try.ntmps24
    go_wp2_with fail
    exact cut_end _ _ 0 0 rfl rfl rfl _ (fd0 0) (.slice none 0 0) (blkNew rfl) (cut_wait HR.out (by go_grown))
  · have d1 : decide ((xs.length : Int) < 4) = false := by simp; omega
    have hk := len1_eq hu 4
    generalize hkk : len1 xs 4 = k at hk
    have HK := Lib.hid hk
    have HKK := Lib.hid hkk
    go_enter Try.func24, Try.ntmps24
    go_wp2_with fail
    refine Calls.mono (rnumber_ok _ A xs.length c 4 _ xs (blkNew (by simp)) (BytesAt.below (B := 0) HX.out (by go_grown)) hu (fun a ha _ => by have := BytesAt.lt HX.out (by omega) a ha; omega) (by omega) (by omega) hc) ?_
    rw [hk]
    clear hk hkk
    rintro e w2 ⟨rfl, hw2⟩
    have hb2 : Below w.heap.size w w2 := by rw [← hw2]; go_grown
    have hf2 : FdAt w2 w.heap.size (fd0 0) (.slice none 0 0) := by rw [← hw2]; exact Blk.other (blkOld (blkNew rfl)) (by simp) _
    clear hw2
    obtain ⟨c0, c1, c2, c3, c4, c5⟩ := fdCells hf2
    have z0 := Blk.frozen (i := 0) hf2
    have z1 := Blk.frozen (i := 1) hf2
    have z2 := Blk.frozen (i := 2) hf2
    have z3 := Blk.frozen (i := 3) hf2
    have z4 := Blk.frozen (i := 4) hf2
    have z5 := Blk.frozen (i := 5) hf2
    have HB2 := Lib.hid hb2
    have HF2 := Lib.hid hf2
    have hs2 := hb2.size
    clear hb2 hf2
    simp only [fd0] at c0 c1 c2 c3 c4
    by_cases q1 : (k : Int) < 1
    · have d2 : decide ((k : Int) < 1) = true := by simpa using q1
      have HR := Lib.hid (show cutS tab xs = .error 121 by unfold cutS; rw [if_neg (by omega), if_pos (by rw [HK.out]; omega)])
      go_wp2_with fail
      exact cut_end _ _ 0 121 rfl rfl rfl _ (fd0 0) (.slice none 0 0) (Blk.set (i := 5) (Blk.set (i := 4) (Blk.set (i := 3) (Blk.set (i := 2) (Blk.set (i := 1) (Blk.set (i := 0) HF2.out _) _) _) _) _) _) (cut_err HR.out (HB2.out.trans (Tu.below (S := [w.heap.size]) ((((((((Tu.refl _ _).setCell (.inl (by simp)) _).setCell (.inl (by simp)) _).setCell (.inl (by simp)) _).setCell (.inl (by simp)) _).setCell (.inl (by simp)) _).setCell (.inl (by simp)) _)) (by omega) (by simp))))
    · have d2 : decide ((k : Int) < 1) = false := by simpa using q1
      by_cases q2 : (262400 : Int) < (k : Int)
      · have d3 : decide ((k : Int) > 262400) = true := by simpa using q2
        have HR := Lib.hid (show cutS tab xs = .error 121 by unfold cutS; rw [if_neg (by omega), if_pos (by rw [HK.out]; omega)])
        go_wp2_with fail
        exact cut_end _ _ 0 121 rfl rfl rfl _ (fd0 0) (.slice none 0 0) (Blk.set (i := 5) (Blk.set (i := 4) (Blk.set (i := 3) (Blk.set (i := 2) (Blk.set (i := 1) (Blk.set (i := 0) HF2.out _) _) _) _) _) _) (cut_err HR.out (HB2.out.trans (Tu.below (S := [w.heap.size]) ((((((((Tu.refl _ _).setCell (.inl (by simp)) _).setCell (.inl (by simp)) _).setCell (.inl (by simp)) _).setCell (.inl (by simp)) _).setCell (.inl (by simp)) _).setCell (.inl (by simp)) _)) (by omega) (by simp))))
      · have d3 : decide ((k : Int) > 262400) = false := by simpa using q2
        by_cases q3 : xs.length < 4 + k
        · have d4 : decide ((xs.length : Int) < 4 + (k : Int)) = true := by simp; omega
          have HR := Lib.hid (show cutS tab xs = .ok none by unfold cutS; rw [if_neg (by omega), if_neg (by rw [HK.out]; omega), if_pos (by rw [HKK.out]; omega)])
          go_wp2_with fail
          exact cut_end _ _ 0 0 rfl rfl rfl _ (fd0 0) (.slice none 0 0) (Blk.set (i := 5) (Blk.set (i := 4) (Blk.set (i := 3) (Blk.set (i := 2) (Blk.set (i := 1) (Blk.set (i := 0) HF2.out _) _) _) _) _) _) (cut_wait HR.out (HB2.out.trans (Tu.below (S := [w.heap.size]) ((((((((Tu.refl _ _).setCell (.inl (by simp)) _).setCell (.inl (by simp)) _).setCell (.inl (by simp)) _).setCell (.inl (by simp)) _).setCell (.inl (by simp)) _).setCell (.inl (by simp)) _)) (by omega) (by simp))))
        · have d4 : decide ((xs.length : Int) < 4 + (k : Int)) = false := by simp; omega
          obtain ⟨i5, hi5, hz5⟩ := info5'
          obtain ⟨A', hrun, hread, hcap⟩ := print_mid_int (P := Try.prog) (k := .u8) 22 5 Try.underlying22 hi5 hz5 A c xs 4 (4 + (k : Int)) (by omega) (by omega) (by omega) hc
          have hcut : (xs.take ((4 + (k : Int)).toNat)).drop (4 : Int).toNat = (xs.drop 4).take k := by
            rw [show (4 + (k : Int)).toNat = 4 + k by omega, show (4 : Int).toNat = 4 from rfl, List.drop_take]
            congr 1
            omega
          rw [hcut] at hrun hread hcap
          have hl2 : ((xs.drop 4).take k).length = k := by simp; omega
          rw [hl2] at hrun hread hcap
          have HRD := Lib.hid hread
          have HL2 := Lib.hid hl2
          clear hread hcut hl2 hi5 hz5
          go_wp2_with fail
          refine (decode_ok tab w2 lo hi tg tc k (c - 4) A' _ (HT.out.step (fun q _ hq => HB2.out.block q (by omega)) (Nat.le_refl _) (Nat.le_refl _)) (by omega) hs.small (BytesAt.of (HRD.out w2 (BytesAt.nums (BytesAt.below (B := 0) HX.out (HB2.out.mono (Nat.le_refl _)))))) (u8_take (u8_drop hu 4) k) (by omega) ?_ (by omega) hs.len).mono ?_
          · intro a ha
            exact BytesAt.lt (BytesAt.of (HRD.out w2 (BytesAt.nums (BytesAt.below (B := 0) HX.out HB2.out)))) (by omega) a ha
          rintro e w3 ⟨F, B, m, c', code, rfl, hb3, hcase⟩
          have hlt2 := Blk.lt HF2.out
          have HB3 := Lib.hid (HB2.out.trans (hb3.mono hs2))
          have hf3 := Blk.below HF2.out hb3
          obtain ⟨c0, c1, c2, c3, c4, c5⟩ := fdCells hf3
          have z0 := Blk.frozen (i := 0) hf3
          have z1 := Blk.frozen (i := 1) hf3
          have z2 := Blk.frozen (i := 2) hf3
          have z3 := Blk.frozen (i := 3) hf3
          have z4 := Blk.frozen (i := 4) hf3
          have z5 := Blk.frozen (i := 5) hf3
          have hs3 := HB3.out.size
          have HF3 := Lib.hid hf3
          have HC := Lib.hid hcase
          clear hb3 hf3 hcase HF2
          simp only [fd0] at c0 c1 c2 c3 c4
          unfold Flds.cells
          go_upto_region 10 with (fail)
          have hf4 : FdAt ((((((w3.setCell ⟨w.heap.size, 0, none⟩ (.int .i64 F.kind)).setCell ⟨w.heap.size, 1, none⟩ (.int .i64 F.tn)).setCell ⟨w.heap.size, 2, none⟩ (.int .i64 F.n)).setCell ⟨w.heap.size, 3, none⟩ (.int .i64 F.m)).setCell ⟨w.heap.size, 4, none⟩ (.string F.name)).setCell ⟨w.heap.size, 5, none⟩ (.slice B m c')) w.heap.size F (.slice B m c') := fd_set6 HF3.out
          have ht4 := tu_set6 w3 w.heap.size F (.slice B m c')
          generalize ((((((w3.setCell ⟨w.heap.size, 0, none⟩ (.int .i64 F.kind)).setCell ⟨w.heap.size, 1, none⟩ (.int .i64 F.tn)).setCell ⟨w.heap.size, 2, none⟩ (.int .i64 F.n)).setCell ⟨w.heap.size, 3, none⟩ (.int .i64 F.m)).setCell ⟨w.heap.size, 4, none⟩ (.string F.name)).setCell ⟨w.heap.size, 5, none⟩ (.slice B m c')) = W4 at hf4 ht4 ⊢
          clear c0 c1 c2 c3 c4 c5 z0 z1 z2 z3 z4 z5
          obtain ⟨c0, c1, c2, c3, c4, c5⟩ := fdCells hf4
          have z0 := Blk.frozen (i := 0) hf4
          have z1 := Blk.frozen (i := 1) hf4
          have z2 := Blk.frozen (i := 2) hf4
          have z3 := Blk.frozen (i := 3) hf4
          have z4 := Blk.frozen (i := 4) hf4
          have z5 := Blk.frozen (i := 5) hf4
          have HF4 := Lib.hid hf4
          have HT4 := Lib.hid ht4
          clear hf4 ht4
          go_wp2_with fail
          refine cut_end _ _ (4 + (k : Int)) code rfl rfl rfl _ F (.slice B m c') (fd_set6 HF4.out) ?_
          have ht := HT4.out.trans (tu_set6 W4 w.heap.size F (.slice B m c'))
          have hB4 := HB3.out.trans (ht.below (by omega) (by simp))
          have hcut : cutS tab xs = match decS tab ((xs.drop 4).take k) with | .error q => .error q | .ok F => .ok (some (F, 4 + k)) := by
            unfold cutS
            rw [if_neg (by omega), if_neg (by rw [HK.out]; omega), if_neg (by rw [HKK.out]; omega), HKK.out]
          rw [hcut]
          refine ⟨F, B, m, c', 4 + (k : Int), code, rfl, hB4, ?_⟩
          have hc1 := HC.out
          cases hd : decS tab ((xs.drop 4).take k) with
          | error q =>
            rw [hd] at hc1
            exact hc1
          | ok F' =>
            rw [hd] at hc1
            obtain ⟨h1, h2, h3⟩ := hc1
            refine ⟨h1, by simp, h2.symm, ?_⟩
            exact Kd.R_lower (Kd.R_mono (own_tu h3 ht (by simp; omega)) (fun _ _ => trivial)) hs2
end Go.Proofs.Ytpflenaoplblkaa.ProN
