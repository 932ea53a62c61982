/-
  Proved: the tied card of the Go function AluExact: for every list of jobs it returns true (each call of the alu answers as the reference does) and leaves all memory as it was. Conditions: the package-level table alu.masks holds what its declaration lays (tied to the program's text).
-/
import Derived.Test.YtpkogmcafgplgaaDoorRows
import Derived.Test.YtpkogmcafgplgaaDoorCards
import Derived.Test.YtpkogmcafgplgaaDoorTie
import Derived.Test.YtpkogmcafgplgaaDoorAluG
import Derived.ProofKit
import Derived.LaidMore
import Derived.OpenShut
import Derived.SevenTiedAt
import Derived.Stop.Joined
import Derived.Deep.Slices
import Derived.Deep.Fields
import Derived.ChangeSame
import Derived.ChangeOld
import Derived.Below
namespace Go.Proofs.YtpkogmcafgplgaaDoor.aluExact
open Go.ChangeShapes Go.WideShapes Go.ChangeAt Go.WideMaps Go.WideElems Go.RowKit Go.Deep
open Go.Proofs.YtpkogmcafgplgaaDoor.AluD Go.Proofs.YtpkogmcafgplgaaDoor.AluG Go.Proofs.YtpkogmcafgplgaaDoor.AluV Go.Proofs.YtpkogmcafgplgaaDoorW.PrintWords
set_option linter.unusedVariables false

theorem own : ownKnob Tryd.prog.godebug = none := by kernel_rfl
theorem laidOut : laidOutB Tryd.prog = true := by kernel_rfl
theorem gMasks : Tryd.prog.globalNamed "arcade/alu.masks" = some 0 := by kernel_rfl
theorem tMasks : (Tryd.prog.globals[0]?).map (·.type) = some 41 := by kernel_rfl
theorem c5 : Tryd.prog.cellsOf 5 = 1 := by kernel_rfl
theorem cM : Tryd.prog.cellsOf 41 = 8 := by kernel_rfl
theorem door_met (os : Os) (args : Array Value) : laidMetH Tryd.prog [("arcade/alu.masks", Rows.laid_arcade_alu_masks)] ((World.doorLaid Tryd.prog 400 os).forCall (fun _ _ => 0) ⟨#[], args, []⟩).memory :=
  laidMetH_of_parts3 (fuel := 8) (laidMet_of_run' 8 (by kernel_rfl) (by kernel_rfl)) (by kernel_rfl) (by kernel_rfl)
theorem eight {α : Type} (xs : List α) (h : xs.length = 8) : ∃ a b c d e f g i, xs = [a, b, c, d, e, f, g, i] := by
  match xs, h with
  | [a, b, c, d, e, f, g, i], _ => exact ⟨a, b, c, d, e, f, g, i, rfl⟩
theorem of_laid {W : World} (h : laidMetH Tryd.prog [("arcade/alu.masks", Rows.laid_arcade_alu_masks)] W) : Masks W := by
  rw [MakeChecks.laidMetH_plain _ _ _ (by kernel_rfl)] at h
  obtain ⟨ps, ⟨g0, t0, cs0, f0, p0, q0, hg0, ht0, hv0, hd0, _, _⟩, _, _⟩ := h
  obtain rfl := Option.some.inj (gMasks.symm.trans hg0)
  obtain rfl := Option.some.inj (tMasks.symm.trans ht0)
  obtain ⟨xs, m1, rfl, hx1, hlen, hn3, hel⟩ := DataW.trod_array Tryd.underlying41 hd0
  rw [cM] at hlen
  obtain ⟨l⟩ := cs0
  obtain ⟨v0, v1, v2, v3, v4, v5, v6, v7, rfl⟩ := eight l hlen
  obtain ⟨x0, x1, x2, x3, x4, x5, x6, x7, rfl⟩ := eight xs hn3
  simp only [Rows.laid_arcade_alu_masks, List.map_cons, List.map_nil, Prod.mk.injEq, DataW.agg.injEq, List.cons.injEq] at hx1
  obtain ⟨⟨y0, y1, y2, y3, y4, y5, y6, y7, _⟩, _⟩ := hx1
  rw [c5] at hel
  have one : ∀ (v : Value) (x : DataW Unit × List MemPlace) (n : Int), DataW.trod (fun _ => ()) Tryd.prog W 0 (fun _ => true) false m1 5 [v] = some x → .lit (.int .u8 n) = x.1 → v = .int .u8 n := by
    intro v x n h hx
    obtain ⟨k, e1, e2, _⟩ := DataW.trod_int Tryd.underlying5 h
    rw [e2] at hx
    simp only [DataW.lit.injEq, Lit.int.injEq] at hx
    rw [← hx.2] at e1
    simpa using e1
  have cell := World.var?_cell gMasks hv0
  obtain rfl := one v0 x0 1 (hel 0 (by decide)) y0
  obtain rfl := one v1 x1 2 (hel 1 (by decide)) y1
  obtain rfl := one v2 x2 4 (hel 2 (by decide)) y2
  obtain rfl := one v3 x3 8 (hel 3 (by decide)) y3
  obtain rfl := one v4 x4 16 (hel 4 (by decide)) y4
  obtain rfl := one v5 x5 32 (hel 5 (by decide)) y5
  obtain rfl := one v6 x6 64 (hel 6 (by decide)) y6
  obtain rfl := one v7 x7 128 (hel 7 (by decide)) y7
  exact ⟨cell 0, cell 1, cell 2, cell 3, cell 4, cell 5, cell 6, cell 7⟩

section
variable {H : Type} {enc : TypeId × Value → H} {P : Program} {w : World} {base : Nat} {spare : Nat → Bool} {held : Bool}
theorem open_slice_fields {t e : TypeId} {fs : Array Field} {fuel : Nat} {cs : List Value} {x : DataW H × List MemPlace} (ht : P.underlying t = some (.slice e)) (he : P.underlying e = some (.struct fs))
    (hone : oneCellFields P fs = true) (hC : P.cellsOf e = fs.size) (h : DataW.trod enc P w base spare held fuel t cs = some x) :
    (cs = [.slice none 0 0] ∧ x = (.nil, [])) ∨
    ∃ (a : Addr) (len cap m : Nat) (D : Nat → DataW H) (Pl : Nat → List MemPlace), cs = [.slice (some a) len cap] ∧ base ≤ a.block ∧ len ≤ cap ∧ cap ≤ maxLen ∧ m = (if spare a.block then cap else len) ∧
      x = (.slice ((List.range len).map D) ((List.range (m - len)).map fun j => D (len + j)), MemPlace.row a (m * fs.size) ++ (List.range m).flatMap Pl) ∧
      ∀ i, i < m → ∃ (ys : List (DataW H × List MemPlace)) (n : Nat), D i = .agg (ys.map (·.1)) ∧ Pl i = ys.flatMap (·.2) ∧ ys.length = fs.size ∧
        ∀ (j : Nat) (f : Field), fs[j]? = some f → ∃ (v : Value) (y : DataW H × List MemPlace), w.cell? (a.add (i * fs.size + j)) = some v ∧ ys[j]? = some y ∧ DataW.trod enc P w base spare held n f.type [v] = some y := by
  rcases open_slice ht h with h0 | ⟨a, len, cap, m, n, D, Pl, hcs, hb, hl, hm, hmm, hx, hi⟩
  · exact .inl h0
  · refine .inr ⟨a, len, cap, m, D, Pl, hcs, hb, hl, hm, hmm, by rw [hC] at hx; exact hx, fun i him => ?_⟩
    obtain ⟨cs', hc, ht'⟩ := hi i him
    rw [hC] at hc
    obtain ⟨ys, n', hn', hy, hlen, hyl, hf⟩ := DataW.trod_struct he ht'
    obtain ⟨_, hcl, hat⟩ := World.cells?_some hc
    simp only [Prod.mk.injEq] at hy
    refine ⟨ys, n', hy.1, hy.2, hyl, fun j f hj => ?_⟩
    obtain ⟨ho, hk⟩ := hone_of hone j f hj
    have hjl : j < fs.size := (Array.getElem?_eq_some_iff.1 hj).1
    have hcell := hat j hjl
    have hv : cs'[j]? = some (cs'[j]'(by omega)) := List.getElem?_eq_getElem (by omega)
    have h1 := hf j f hj
    rw [ho, hk] at h1
    have hone' : (cs'.drop j).take 1 = [cs'[j]'(by omega)] := by
      rw [List.drop_eq_getElem_cons (by omega)]
      rfl
    rw [hone'] at h1
    have hys : ys[j]? = some (ys[j]'(by omega)) := List.getElem?_eq_getElem (by omega)
    refine ⟨_, _, ?_, hys, h1.trans hys⟩
    rw [← Go.Deep.add_add, hcell, hv]
end

/-- the jobs of a list, in memory -/
def JobsAt (w : World) (A : Option Addr) (n : Nat) : Prop := ∀ i : Nat, i < n → ∃ (ad : Addr) (k o a b f : Int), A = some ad ∧ (Lit.int .i64 k).wf = true ∧ w.cell? (ad.add (i * 5)) = some (.int .i64 k) ∧ w.cell? ⟨(ad.add (i * 5)).block, (ad.add (i * 5)).off + 1, none⟩ = some (.int .i64 o) ∧
  w.cell? ⟨(ad.add (i * 5)).block, (ad.add (i * 5)).off + 2, none⟩ = some (.int .i64 a) ∧ w.cell? ⟨(ad.add (i * 5)).block, (ad.add (i * 5)).off + 3, none⟩ = some (.int .i64 b) ∧ w.cell? ⟨(ad.add (i * 5)).block, (ad.add (i * 5)).off + 4, none⟩ = some (.int .i64 f)
set_option maxHeartbeats 4000000 in
set_option maxRecDepth 100000 in
theorem walk (A : Option Addr) (n c : Nat) (w : World) (hn : n ≤ 9223372036854775807) (hm : Masks w) (h0 : 0 < w.heap.size) (hj : JobsAt w A n) :
    Calls Tryd.prog 4 #[.slice A n c] w fun e w' => e = .returned (.bool true) ∧ Below w.heap.size w w' := by
  have HJ := Lib.hid hj
  clear hj
  go_enter Tryd.func4, Tryd.ntmps4
  go_wp2_with fail
  refine (done_any 0 1 225 15 16 w (by decide) hm h0).mono ?_
  rintro e w1 ⟨rfl, hb1⟩
  have HB1 := Lib.hid hb1
  clear hb1
  go_wp2_with fail
  go_loopw [3, 4] (fun ok i wr => ∃ k : Nat, k ≤ n ∧ ok = .bool true ∧ i = .int .i64 k ∧ Hid (Below w.heap.size w wr)) (fun _ i _ => n - (intOf i).toNat)
  case atStart => exact ⟨0, by omega, rfl, rfl, HB1⟩
  case round =>
    obtain ⟨k, hk, rfl, rfl, HB⟩ := hrel
    by_cases hlt : k < n
    · obtain ⟨ad, kd, o, a, b, f, rfl, wk, x0, x1, x2, x3, x4⟩ := HJ.out k hlt
      have hb := HB.out
      have hm' := masks_below hm hb h0
      have h0' : 0 < wr.heap.size := Nat.lt_of_lt_of_le h0 hb.size
      replace x0 := (hb.cell (World.block_lt_of_cell? w _ x0)).trans x0
      replace x1 := (hb.cell (World.block_lt_of_cell? w _ x1)).trans x1
      replace x2 := (hb.cell (World.block_lt_of_cell? w _ x2)).trans x2
      replace x3 := (hb.cell (World.block_lt_of_cell? w _ x3)).trans x3
      replace x4 := (hb.cell (World.block_lt_of_cell? w _ x4)).trans x4
      have WK := Lib.hid wk
      clear wk hb
      go_wp2_with fail
      refine (done_any kd o a b f wr WK.out hm' h0').mono ?_
      rintro e w2 ⟨rfl, hb2⟩
      have HB2 := Lib.hid (bt HB.out hb2)
      clear hb2
      go_wp2_with fail
      exact ⟨⟨k + 1, by omega, rfl, by go_num, HB2⟩, by simp [intOf]; omega⟩
    · go_wp2_with fail
      go_ret
      exact ⟨rfl, HB.out⟩

theorem five {α : Type} (xs : List α) (h : xs.length = 5) : ∃ a b c d e, xs = [a, b, c, d, e] := by
  match xs, h with
  | [a, b, c, d, e], _ => exact ⟨a, b, c, d, e, rfl⟩
theorem jobs_of {H : Type} {enc : TypeId × Value → H} {W : World} {v : Value} {d : DataW H} {p : List MemPlace} (hv : Value.okWide Tryd.prog W .any 0 26 v) (h : DataW.Trod enc Tryd.prog W 0 (fun _ => true) true 26 v d p) :
    ∃ A n c, v = .slice A n c ∧ n ≤ 9223372036854775807 ∧ JobsAt W A n := by
  obtain ⟨A, n, c, rfl⟩ := okWide_slice Tryd.underlying26 hv
  refine ⟨A, n, c, rfl, ?_⟩
  obtain ⟨fuel, hf⟩ := h
  rcases open_slice_fields Tryd.underlying26 Tryd.underlying29 (by kernel_rfl) (by kernel_rfl) hf with ⟨hcs, _⟩ | ⟨a, len, cap, m, D, Pl, hcs, _, hl, hm, hmm, _, hi⟩
  · simp [Value.cells] at hcs
    obtain ⟨rfl, rfl, rfl⟩ := hcs
    exact ⟨by omega, fun i h => by omega⟩
  · simp [Value.cells] at hcs
    obtain ⟨rfl, rfl, rfl⟩ := hcs
    have hcm : c = m := by rw [hmm]; simp
    refine ⟨by unfold maxLen at hm; omega, fun i h => ?_⟩
    obtain ⟨ys, k, _, _, hys, hf⟩ := hi i (by omega)
    obtain ⟨v0, y0, c0, _, t0⟩ := hf 0 _ rfl
    obtain ⟨v1, y1, c1, _, t1⟩ := hf 1 _ rfl
    obtain ⟨v2, y2, c2, _, t2⟩ := hf 2 _ rfl
    obtain ⟨v3, y3, c3, _, t3⟩ := hf 3 _ rfl
    obtain ⟨v4, y4, c4, _, t4⟩ := hf 4 _ rfl
    obtain ⟨n0, e0, _, w0⟩ := DataW.trod_int Tryd.underlying3 t0
    obtain ⟨n1, e1, _, _⟩ := DataW.trod_int Tryd.underlying3 t1
    obtain ⟨n2, e2, _, _⟩ := DataW.trod_int Tryd.underlying3 t2
    obtain ⟨n3, e3, _, _⟩ := DataW.trod_int Tryd.underlying3 t3
    obtain ⟨n4, e4, _, _⟩ := DataW.trod_int Tryd.underlying3 t4
    simp at e0 e1 e2 e3 e4
    subst e0 e1 e2 e3 e4
    exact ⟨a, n0, n1, n2, n3, n4, rfl, w0, c0, by rw [← add_field _ _ 1 (by omega)]; exact c1, by rw [← add_field _ _ 2 (by omega)]; exact c2, by rw [← add_field _ _ 3 (by omega)]; exact c3, by rw [← add_field _ _ 4 (by omega)]; exact c4⟩
set_option maxRecDepth 100000 in
theorem lifted (os : Os) (started : os.Started) (H : Type) (enc : TypeId × Value → H) :
    ReturnsInHanded {} Tryd.checked os 4 .any (fun w args => (Rows.aluExactSpec.pre enc Tryd.prog Tryd.f4 [] false w args ∧ laidMetH Tryd.prog [("arcade/alu.masks", Rows.laid_arcade_alu_masks)] w) ∧ sizedMet enc Tryd.prog Tryd.f4 (OpenSpec.ofChange Rows.aluExactSpec) false w args)
      (Rows.aluExactSpec.post enc Tryd.prog Tryd.f4 false true false false) := by
  refine returnsInHanded_of_change_and (C := Tryd.checked) (X := fun w _ => laidMetH Tryd.prog [("arcade/alu.masks", Rows.laid_arcade_alu_masks)] w) (fun _ _ _ hh h => h.of_heap hh) own started (by kernel_rfl) Tryd.func4
    (ChangeSpec.witness_shaped (enc := enc) (C := Tryd.checked) (os := os) (X := fun w _ => laidMetH Tryd.prog [("arcade/alu.masks", Rows.laid_arcade_alu_masks)] w) false (World.doorLaid Tryd.prog 400 os) #[.slice none 0 0] 8 rfl (World.shaped_of_RefB (by kernel_rfl) (by kernel_rfl)) (by kernel_rfl) (by kernel_rfl) (by kernel_rfl) (door_met os _)) ?_
  intro W base args ds gs before hval0 hW _ _ hL _
  have hval : ∀ (j : Nat) t v, Tryd.f4.params[j]? = some t → args[j]? = some v → Value.okWide Tryd.prog W .any base t v := hval0
  have hW' := hW
  obtain ⟨p, q, hA0, hV, rfl, hfz, hnd⟩ := hW
  have hA : DataW.TrodAll enc Tryd.prog W 0 (fun _ => true) true Tryd.f4.params.toList args.toList ds p := hA0
  rw [Tryd.params4] at hA hval
  obtain ⟨v0, d0, rfl, rfl, h0⟩ := trodAll_one hA
  obtain ⟨rfl, rfl⟩ := trodVars_none hV
  have k0 := h0
  have lt0 : ∀ x ∈ p, x.block < W.heap.size := by obtain ⟨m, hm⟩ := k0; exact DataW.trod_lt m _ _ _ hm
  obtain ⟨A, n, c, rfl, hn, hj⟩ := jobs_of (hval 0 26 v0 rfl rfl) h0
  have hm := of_laid hL
  clear hA0 hval0
  refine (walk A n c W hn hm (World.block_lt_of_cell? W _ hm.m0) hj).mono fun e W' ⟨he, bel⟩ => ?_
  subst he
  exact ⟨_, rfl, _, _, _, [], _, [], hW', trodAll_mk1 (shut_bool Tryd.underlying4 _), trodAll_mk1 (Below.trod laidOut (by kernel_rfl) (of_decide_eq_true (by kernel_rfl)) k0 bel lt0), rfl, bel.frame _, fun h => by cases h⟩

theorem over : Rows.aluExactRow.holds Tryd.pinned (OpenSpec.ofChange Rows.aluExactSpec) :=
  OpenClaim.holds_of_wide 4 Tryd.f4 rfl rfl rfl rfl rfl rfl rfl ⟨rfl, rfl, rfl, rfl, rfl⟩ rfl rfl rfl rfl rfl (by kernel_rfl) Tryd.func4 (by kernel_rfl)
    (of_decide_eq_true (by kernel_rfl)) (by unfold Func.isWrapper; first | (rw [if_pos (by decide +kernel)]; kernel_rfl) | (rw [if_neg (by decide +kernel)]; exact ⟨rfl, rfl⟩))
    (fun os started H enc _ => lifted os started H enc)
end Go.Proofs.YtpkogmcafgplgaaDoor.aluExact
namespace Go.Proofs.YtpkogmcafgplgaaDoor
theorem aluExact_holds : Rows.AluExactCardSaid :=
  Claim7.holds_tied_plain_at .later [] [.data] true (true, "d78badccdea163af251171cf0e7015e9771753cbdcf946f7f41c3b8175065e3b") false
    aluExact.over (fun _ h => by cases h) (by kernel_rfl) (fun _ h => by cases h) aluExact_row_tie rfl ⟨rfl, rfl⟩ (by kernel_rfl) rfl
    (fun f fn hf hfn => by
      obtain rfl : f = 4 := Option.some.inj ((show Tryd.prog.funcNamed "arcade/arcadelaw1.AluExact" = some 4 by kernel_rfl).symm.trans hf) |>.symm
      obtain rfl : fn = Tryd.f4 := (Option.some.inj (Tryd.func4.symm.trans hfn)).symm
      exact ⟨by kernel_rfl, fun j t ht => by
        rw [Tryd.params4] at ht
        have hm : t ∈ [26] := by simpa using Array.mem_of_getElem? ht
        have hall : ([26].all fun u => !Tryd.prog.wantsStandIn u) = true := by kernel_rfl
        exact (show Tryd.prog.wantsStandIn t = false by simpa using List.all_eq_true.1 hall t hm)⟩)
    (by kernel_rfl)
#print axioms aluExact_holds
end Go.Proofs.YtpkogmcafgplgaaDoor
