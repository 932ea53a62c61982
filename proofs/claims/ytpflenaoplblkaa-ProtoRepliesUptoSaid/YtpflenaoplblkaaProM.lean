import Derived.Test.YtpflenaoplblkaaProL
namespace Go.Proofs.Ytpflenaoplblkaa.ProM
open Go.RowKit Go.Proofs.YtpflenaoplblkaaW.PrintWords Go.Proofs.YtpflenaoplblkaaW.PrintLast Go.Proofs.Ytpflenaoplblkaa.ProA Go.Proofs.Ytpflenaoplblkaa.ProB Go.Proofs.Ytpflenaoplblkaa.ProC Go.Proofs.Ytpflenaoplblkaa.ProI Go.Proofs.Ytpflenaoplblkaa.ProD Go.Proofs.Ytpflenaoplblkaa.ProE Go.Proofs.Ytpflenaoplblkaa.ProF Go.Proofs.Ytpflenaoplblkaa.ProG Go.Proofs.Ytpflenaoplblkaa.ProH Go.Proofs.Ytpflenaoplblkaa.ProJ Go.Proofs.Ytpflenaoplblkaa.ProK Go.Proofs.Ytpflenaoplblkaa.ProL
set_option linter.unusedVariables false
set_option linter.unusedSimpArgs false
theorem fdCells {w : World} {f : Nat} {F : Flds} {dv : Value} (h : FdAt w f F dv) : w.cell? ⟨f, 0, none⟩ = some (.int .i64 F.kind) ∧ w.cell? ⟨f, 1, none⟩ = some (.int .i64 F.tn) ∧ w.cell? ⟨f, 2, none⟩ = some (.int .i64 F.n) ∧ w.cell? ⟨f, 3, none⟩ = some (.int .i64 F.m) ∧ w.cell? ⟨f, 4, none⟩ = some (.string F.name) ∧ w.cell? ⟨f, 5, none⟩ = some dv :=
  ⟨Blk.cell (i := 0) h rfl, Blk.cell (i := 1) h rfl, Blk.cell (i := 2) h rfl, Blk.cell (i := 3) h rfl, Blk.cell (i := 4) h rfl, Blk.cell (i := 5) h rfl⟩
theorem dec_panic {R : Ending → World → Prop} (T : Array Value) (f cg : Nat) (h4 : T[4]?.getD undef = pt f) (h5 : T[5]?.getD undef = pt cg) (W : World) (q x : Int) (F : Flds) (dv : Value) (hf : FdAt W f F dv) (hc : Blk W cg #[.int .i64 x] 28) (hne : f ≠ cg)
    (hR : ∀ w', Tu [cg] W w' → R (.returned (.tuple #[.agg (Flds.cells F dv), .int .i64 q])) w') :
    bodyPostD Try.prog Try.f46 R (Exit.panic [{ v := .iface 124 (.agg #[.int .i64 q]), recovered := false }]) { tmps := T, defers := [{ target := Target.fn (Fn.func 77) #[pt cg], args := #[] }] } W := by
  refine leaves_cons (f := 77) (args := #[pt cg]) (by simp) (by simp [go_sem]) ?_
  refine (catch_panicking cg x q [] W hc).mono ?_
  rintro e u' w3 ⟨rfl, rfl, k1, k2⟩
  obtain ⟨c0, c1, c2, c3, c4, c5⟩ := fdCells (hf.tu k2 (by simpa using hne))
  have c6 : w3.cell? ⟨cg, 0, none⟩ = some (.int .i64 q) := Blk.cell (i := 0) k1 rfl
  have hR' := hR w3 k2
  simp [Leaves, settle, results, Try.results46, go_sem, h4, h5, c0, c1, c2, c3, c4, c5, c6]
  exact hR'
theorem dec_ret {R : Ending → World → Prop} (T : Array Value) (f cg : Nat) (h4 : T[4]?.getD undef = pt f) (h5 : T[5]?.getD undef = pt cg) (W : World) (q : Int) (F : Flds) (dv : Value) (hf : FdAt W f F dv) (hc : Blk W cg #[.int .i64 q] 28)
    (hR : R (.returned (.tuple #[.agg (Flds.cells F dv), .int .i64 q])) W) :
    bodyPostD Try.prog Try.f46 R Exit.ret { tmps := T, defers := [{ target := Target.fn (Fn.func 77) #[pt cg], args := #[] }] } W := by
  obtain ⟨c0, c1, c2, c3, c4, c5⟩ := fdCells hf
  have c6 : W.cell? ⟨cg, 0, none⟩ = some (.int .i64 q) := Blk.cell (i := 0) hc rfl
  refine leaves_cons (f := 77) (args := #[pt cg]) (by simp) (by simp [go_sem]) ?_
  refine (catch_idle cg W).mono ?_
  rintro e u' w3 ⟨rfl, rfl, rfl⟩
  simp [Leaves, settle, results, Try.results46, go_sem, h4, h5, c0, c1, c2, c3, c4, c5, c6]
  exact hR
theorem adv_lt {A : Option Addr} {c k h : Nat} (hA : ∀ a, A = some a → a.block < h) : ∀ a, adv A c k = some a → a.block < h := by
  intro a ha
  unfold adv at ha
  split at ha
  · exact hA a ha
  · cases A with
    | none => simp at ha
    | some b =>
      simp only [Option.map_some, Option.some.injEq] at ha
      subst ha
      have := hA b rfl
      unfold Addr.add
      split <;> exact this
theorem BytesAt.below' {B : Nat} {w w' : World} {A : Option Addr} {n : Nat} {xs : List Int} (h : BytesAt w A n xs) (hb : Below B w w') (hA : ∀ a, A = some a → a.block < B) : BytesAt w' A n xs := by
  have hr := Kd.reads_of_C (enc := Value.int .u8) (d := (0 : Int)) (h1 := fun _ => rfl) h
  refine Kd.C_of_reads (d := (0 : Int)) ⟨hr.1, hr.2.1, fun hn => ?_⟩
  obtain ⟨a, e, hc⟩ := hr.2.2 hn
  refine ⟨a, e, fun j hj => ?_⟩
  have hl := hA a e
  have : (a.add j).block < B := by
    cases j with
    | zero => rwa [Addr.add_zero']
    | succ j => simpa [Addr.add_succ'] using hl
  exact (World.cell?_of_block (w := w) (hb.block _ this)).trans (hc j hj)
/-- how decode ends -/
def DecPost (w : World) (r : Except Int Flds) (e : Ending) (w' : World) : Prop :=
  ∃ (F : Flds) (B : Option Addr) (m c : Nat) (code : Int), e = .returned (.tuple #[.agg (Flds.cells F (.slice B m c)), .int .i64 code]) ∧ Below w.heap.size w w' ∧
    match r with | .ok F' => code = 0 ∧ F' = F ∧ Own w' w.heap.size (fun _ => True) (.slice B m c) F.data | .error q => code = q
theorem own_tu {base : Nat} {S : List Nat} {w w' : World} {ok : Nat → Prop} {dv : Value} {xs : List Int} (h : Own w base ok dv xs) (ht : Tu S w w') (hS : ∀ k, k ∈ S → k < base) : Own w' base ok dv xs :=
  Kd.R_mono (Kd.R_move (Kd.R_bound h) (fun k hk => ht.block k hk.2.2.1 (fun hm => by have := hS k hm; have := hk.2.1; omega))) (fun _ hk => hk.1)
/-- a function that a call enters -/
def Enters (n : FuncId) : Prop := ∀ (args : Array Value) (w : World), (callFunc n args).run Try.prog w = .ok (.enter n args) w
theorem FCalls.calls {n : FuncId} {cap args : Array Value} {w : World} {R : Ending → World → Prop} (h : FCalls Try.prog (fnv n cap) args w R) : Calls Try.prog n (args ++ cap) w R := by
  obtain ⟨N, fn, cp, e, _, _, _, h⟩ := h
  simp only [fnv, Value.func.injEq, Fn.func.injEq] at e
  obtain ⟨e1, _, e2⟩ := e
  subst e1
  subst e2
  exact h
theorem PartAt.fns {w : World} {lo hi : Nat} {f0 f1 f2 f3 : Value} {p : PS} (h : PartAt w lo hi (.agg #[f0, f1, f2, f3]) p) :
    ∃ n0 c0 n1 c1 n2 c2 n3 c3, f0 = fnv n0 c0 ∧ f1 = fnv n1 c1 ∧ f2 = fnv n2 c2 ∧ f3 = fnv n3 c3 ∧ Enters n0 ∧ Enters n1 ∧ Enters n2 ∧ Enters n3 := by
  cases p with
  | num o k l h' =>
    obtain ⟨a4, a5, a6, a7, hv, _⟩ := h
    simp only [Value.agg.injEq, Array.mk.injEq, List.cons.injEq, and_true] at hv
    obtain ⟨rfl, rfl, rfl, rfl⟩ := hv
    exact ⟨_, _, _, _, _, _, _, _, rfl, rfl, rfl, rfl, fun a w => enters_ Try.func63 (by kernel_rfl) rfl a w, fun a w => enters_ Try.func64 (by kernel_rfl) rfl a w, fun a w => enters_ Try.func65 (by kernel_rfl) rfl a w, fun a w => enters_ Try.func66 (by kernel_rfl) rfl a w⟩
  | name =>
    have hv : Value.agg #[f0, f1, f2, f3] = _ := h
    simp only [Value.agg.injEq, Array.mk.injEq, List.cons.injEq, and_true] at hv
    obtain ⟨rfl, rfl, rfl, rfl⟩ := hv
    exact ⟨_, _, _, _, _, _, _, _, rfl, rfl, rfl, rfl, fun a w => enters_ Try.func67 (by kernel_rfl) rfl a w, fun a w => enters_ Try.func69 (by kernel_rfl) rfl a w, fun a w => enters_ Try.func71 (by kernel_rfl) rfl a w, fun a w => enters_ Try.func72 (by kernel_rfl) rfl a w⟩
  | blob h' =>
    obtain ⟨a, hv, _⟩ := h
    simp only [Value.agg.injEq, Array.mk.injEq, List.cons.injEq, and_true] at hv
    obtain ⟨rfl, rfl, rfl, rfl⟩ := hv
    exact ⟨_, _, _, _, _, _, _, _, rfl, rfl, rfl, rfl, fun a w => enters_ Try.func73 (by kernel_rfl) rfl a w, fun a w => enters_ Try.func74 (by kernel_rfl) rfl a w, fun a w => enters_ Try.func75 (by kernel_rfl) rfl a w, fun a w => enters_ Try.func76 (by kernel_rfl) rfl a w⟩
/-- decode's round: the reader, the fields, the code -/
structure DecSt (w wr : World) (g f cg n : Nat) (F : Flds) (dv : Value) (A : Option Addr) (n' c' : Nat) (ys : List Int) : Prop where
  rest : ProJ.Rest wr g f A n' c' ys
  fd : FdAt wr f F dv
  code : Blk wr cg #[.int .i64 0] 28
  data : DataAt wr (w.heap.size + 3) g f dv F.data
  below : Below w.heap.size w wr
  size : w.heap.size + 3 ≤ wr.heap.size
  len : n' ≤ n
theorem DecSt.below' {w wr w' : World} {g f cg n n' c' : Nat} {F : Flds} {dv : Value} {A : Option Addr} {ys : List Int} (h : DecSt w wr g f cg n F dv A n' c' ys) (hb : Below wr.heap.size wr w') : DecSt w w' g f cg n F dv A n' c' ys :=
  ⟨⟨Blk.below h.rest.at_ hb, BytesAt.below (B := 0) h.rest.bytes hb, h.rest.u8, h.rest.ng, h.rest.nf, h.rest.le⟩, Blk.below h.fd hb, Blk.below h.code hb, Kd.R_below h.data hb, h.below.trans (hb.mono h.below.size), by have := h.size; have := hb.size; omega, h.len⟩
theorem DecSt.read {w wr w' : World} {g f cg n n' c' k c2 : Nat} {F F' : Flds} {dv dv' : Value} {A A2 : Option Addr} {ys : List Int} (h : DecSt w wr g f cg n F dv A n' c' ys) (hr : ProJ.Rest w' g f A2 (n' - k) c2 (ys.drop k)) (hf : FdAt w' f F' dv') (hd : DataAt w' (w.heap.size + 3) g f dv' F'.data) (ht : Tu [g, f] wr w') (hg : w.heap.size ≤ g) (hff : w.heap.size ≤ f) (hcg : cg ≠ g ∧ cg ≠ f) : DecSt w w' g f cg n F' dv' A2 (n' - k) c2 (ys.drop k) :=
  ⟨hr, hf, Blk.tu h.code ht (by simp; exact hcg), hd, h.below.trans (ht.below h.below.size (by simp; omega)), by have := h.size; have := ht.size; omega, by have := h.len; omega⟩
theorem dec_err {w w' : World} {F : Flds} {B : Option Addr} {m c : Nat} {q : Int} {r : Except Int Flds} (hr : r = .error q) (hb : Below w.heap.size w w') : DecPost w r (.returned (.tuple #[.agg (Flds.cells F (.slice B m c)), .int .i64 q])) w' := by
  subst hr
  exact ⟨F, B, m, c, q, rfl, hb, rfl⟩
theorem dec_end {w wr w' : World} {g n n' c' : Nat} {F : Flds} {B : Option Addr} {m c : Nat} {A : Option Addr} {ys : List Int} {r : Except Int Flds} (h : DecSt w wr g w.heap.size (w.heap.size + 1) n F (.slice B m c) A n' c' ys) (ht : Tu [w.heap.size, w.heap.size + 1] wr w') (hr : r = .ok F) : DecPost w r (.returned (.tuple #[.agg (Flds.cells F (.slice B m c)), .int .i64 0])) w' := by
  subst hr
  refine ⟨F, B, m, c, 0, rfl, h.below.trans (ht.below h.below.size (by simp)), rfl, rfl, ?_⟩
  exact Kd.R_lower (Kd.R_mono (own_tu h.data ht (by simp)) (fun _ _ => trivial)) (by omega)
set_option maxHeartbeats 4000000 in
set_option maxRecDepth 100000 in
theorem decode_ok (tab : List (List PS)) (w : World) (lo hi tg tc n c : Nat) (A : Option Addr) (xs : List Int)
    (ht : TabAt w lo hi (.slice (some ⟨tg, 0, none⟩) tab.length tc) tab) (hhi : hi ≤ w.heap.size) (hs : ∀ ps ∈ tab, ∀ p ∈ ps, psmall p) (hx : BytesAt w A n xs) (hu : u8s xs) (hc : n ≤ c) (hA : ∀ a, A = some a → a.block < w.heap.size) (hbig : n ≤ 140737488350000) (hl3 : ∀ ps ∈ tab, ps.length ≤ 1000) :
    Calls Try.prog 46 #[.slice (some ⟨tg, 0, none⟩) tab.length tc, .slice A n c] w (DecPost w (decS tab xs)) := by
  have hm := hmf
  have hlen := BytesAt.len hx
  go_enter_defers Try.func46, Try.ntmps46
  go_wp2_with fail
  generalize hW0 : (((w.alloc (Obj.cells #[Value.int IntKind.i64 0, Value.int IntKind.i64 0, Value.int IntKind.i64 0, Value.int IntKind.i64 0, Value.string { data := #[] }, Value.slice none 0 0] 71)).alloc (Obj.cells #[Value.int IntKind.i64 0] 28)).alloc (Obj.cells #[Value.slice A n c] 99)) = W0
  have bf : FdAt W0 w.heap.size (fd0 0) (.slice none 0 0) := by rw [← hW0]; exact blkOld (blkOld (blkNew rfl))
  have bc : Blk W0 (w.heap.size + 1) #[.int .i64 0] 28 := by rw [← hW0]; exact blkOld (blkNew (by simp))
  have br : RdAt W0 (w.heap.size + 1 + 1) A n c := by rw [← hW0]; exact blkNew (by simp)
  have hB0 : Below w.heap.size w W0 := by rw [← hW0]; go_grown
  have hsz : W0.heap.size = w.heap.size + 3 := by rw [← hW0]; simp
  clear hW0
  have hx0 : BytesAt W0 A n xs := Kd.C_below hx hB0
  by_cases h1 : n < 1
  · refine Calls.mono (rnumber_no _ A n c 1 W0 br h1) ?_
    rintro e w2 ⟨rfl, rfl⟩
    refine dec_panic _ _ _ rfl rfl W0 121 0 (fd0 0) (.slice none 0 0) bf bc (by omega) ?_
    intro w' ht'
    refine dec_err ?_ (hB0.trans (ht'.below (by omega) (by simp)))
    unfold decS
    rw [if_pos (by omega)]
  · have hk := len1_eq hu 1
    generalize hkk : len1 xs 1 = k at hk
    have hk255 := be_lt hu 1
    refine Calls.mono (rnumber_ok _ A n c 1 W0 xs br hx0 hu (fun a ha _ => by have := hA a ha; omega) (by omega) (by omega) hc) ?_
    rintro e w2 ⟨rfl, hw2⟩
    have bf2 : FdAt w2 w.heap.size (fd0 0) (.slice none 0 0) := by rw [← hw2]; exact Blk.other bf (by simp; omega) _
    have bc2 : Blk w2 (w.heap.size + 1) #[.int .i64 0] 28 := by rw [← hw2]; exact Blk.other bc (by simp) _
    have br2 : RdAt w2 (w.heap.size + 1 + 1) (adv A c 1) (n - 1) (c - 1) := by rw [← hw2]; exact Blk.set (i := 0) br _
    have ht2 : Tu [w.heap.size + 1 + 1] W0 w2 := by rw [← hw2]; exact (Tu.refl _ _).setCell (.inl (by simp)) _
    clear hw2
    rw [hk]
    have cf2 : w2.cell? ⟨w.heap.size, 0, none⟩ = some (.int .i64 0) := Blk.cell (i := 0) bf2 rfl
    have cz2 := Blk.frozen (i := 0) bf2
    have bf3 : FdAt (w2.setCell ⟨w.heap.size, 0, none⟩ (.int .i64 k)) w.heap.size (fd0 k) (.slice none 0 0) := Blk.set (i := 0) bf2 _
    have bc3 : Blk (w2.setCell ⟨w.heap.size, 0, none⟩ (.int .i64 k)) (w.heap.size + 1) #[.int .i64 0] 28 := Blk.other bc2 (by simp) _
    have br3 : RdAt (w2.setCell ⟨w.heap.size, 0, none⟩ (.int .i64 k)) (w.heap.size + 1 + 1) (adv A c 1) (n - 1) (c - 1) := Blk.other br2 (by simp; omega) _
    have ht3 : Tu [w.heap.size + 1 + 1, w.heap.size] W0 (w2.setCell ⟨w.heap.size, 0, none⟩ (.int .i64 k)) := (ht2.mono (fun i hi => .inl (by simp at hi ⊢; exact .inl hi))).setCell (.inl (by simp)) _
    have hB3 : Below w.heap.size w (w2.setCell ⟨w.heap.size, 0, none⟩ (.int .i64 k)) := hB0.trans (ht3.below (by omega) (by simp; omega))
    have hs3 := ht3.size
    have cf3 : (w2.setCell ⟨w.heap.size, 0, none⟩ (.int .i64 k)).cell? ⟨w.heap.size, 0, none⟩ = some (.int .i64 k) := Blk.cell (i := 0) bf3 rfl
    by_cases q1 : 1 ≤ k
    · have d1 : decide ((k : Int) ≥ 1) = true := by simp; omega
      by_cases q2 : k < tab.length
      · have d2 : decide ((k : Int) < (tab.length : Int)) = true := by simp; omega
        obtain ⟨ps, hps⟩ : ∃ ps, tab[k]? = some ps := ⟨_, List.getElem?_eq_getElem q2⟩
        have hsp : ∀ p ∈ ps, psmall p := hs ps (List.mem_of_getElem? hps)
        have hl4 := hl3 ps (List.mem_of_getElem? hps)
        clear hl3
        have hdec : decS tab xs = decParts ps (xs.drop 1) (fd0 k) := by
          unfold decS
          rw [if_neg (by omega), hk, Int.toNat_natCast, hps]
          simp only
          rw [if_neg (by omega)]
        obtain ⟨tg', tc', he, t1, t2, hrows⟩ := ht
        injection he with he1 he2 he3
        injection he1 with he4
        injection he4 with he5
        subst he5
        subst he3
        obtain ⟨rv, hrc, hrow⟩ := hrows k ps hps
        have hrc3 := cell_keep hrc (hB3.block tg (by omega))
        obtain ⟨RA, rc, rfl, hparts⟩ := hrow
        clear hrows hrc
        have HP := Lib.hid hparts
        clear hparts
        generalize hW3 : w2.setCell ⟨w.heap.size, 0, none⟩ (.int .i64 k) = W3 at *
        have hr3 : ProJ.Rest W3 (w.heap.size + 1 + 1) w.heap.size (adv A c 1) (n - 1) (c - 1) (xs.drop 1) :=
          ⟨br3, BytesAt.below' (BytesAt.drop hx 1 (by omega) hc) hB3 (adv_lt hA), u8_drop hu 1, adv_ne (fun a ha => by have := hA a ha; omega), adv_ne (fun a ha => by have := hA a ha; omega), by omega⟩
        have HS := Lib.hid (show DecSt w W3 (w.heap.size + 1 + 1) w.heap.size (w.heap.size + 1) n (fd0 k) (.slice none 0 0) (adv A c 1) (n - 1) (c - 1) (xs.drop 1) from ⟨hr3, bf3, bc3, Kd.R_nil _ _ _ _ _, hB3, by omega, by omega⟩)
        have HD := Lib.hid hdec
        clear hr3 br3 ht3 ht2 hB0 bf bc br bf2 bc2 br2 hx0 hB3 bf3 bc3 hdec hx hs3
        go_wp2_with (with_reducible refine (need_yes ..).mono ?_; rintro e w4 ⟨rfl, rfl⟩)
        clear hW3 cf2 cz2
        go_loopw [33] (fun i wr => ∃ (j : Nat) (F : Flds) (dv : Value) (A' : Option Addr) (n' c' : Nat) (ys : List Int), j ≤ ps.length ∧ i = .int .i64 j ∧ Hid (DecSt w wr (w.heap.size + 1 + 1) w.heap.size (w.heap.size + 1) n F dv A' n' c' ys) ∧ Hid (decS tab xs = decParts (ps.drop j) ys F)) (fun i _ => (ps.length - (intOf i).toNat))
        case atStart => exact ⟨0, _, _, _, _, _, _, by omega, rfl, HS, HD⟩
        case round =>
          clear HS HD cf3
          obtain ⟨j, F, dv, A', n', c', ys, hj, rfl, HS, HD⟩ := hrel
          by_cases hjl : j < ps.length
          · have hst := HS.out
            obtain ⟨p, hp⟩ : ∃ p, ps[j]? = some p := ⟨_, List.getElem?_eq_getElem hjl⟩
            have hsm := hsp p (List.mem_of_getElem? hp)
            have hdec : decS tab xs = decParts (p :: ps.drop (j + 1)) ys F := by rw [HD.out, List.drop_eq_getElem_cons hjl]; congr 1; have := (List.getElem?_eq_some_iff.1 hp).2; rw [this]
            obtain ⟨g, hRA, g1, g2, f0, f1, f2, f3, e0, e1, e2, e3, hpt⟩ := HP.out j p hp
            clear hrc3
            subst hRA
            have hgb := hst.below.block g (by omega)
            rw [Nat.mul_comm] at e0 e1 e2 e3
            obtain ⟨n0, cp0, n1, cp1, n2, cp2, n3, cp3, rfl, rfl, rfl, rfl, en0, en1, _, _⟩ := PartAt.fns hpt
            have ec0 := fun v => en0 (#[pt (w.heap.size + 1 + 1), pt w.heap.size] ++ cp0) v
            have ec1 := fun v => en1 (#[pt w.heap.size] ++ cp1) v
            have k0 := cell_keep e0 hgb
            have k1 := cell_keep e1 hgb
            have k2 := cell_keep e2 hgb
            have k3 := cell_keep e3 hgb
            have HPT := Lib.hid hpt
            have HST := Lib.hid hst
            have HDD := Lib.hid hdec
            have dl : decide ((j : Int) < (ps.length : Int)) = true := by simp; omega
            clear e0 e1 e2 e3 hpt hst HS HD hdec hp hgb hs
            go_wp2_with fail
            have hst0 := HST.out
            have hB1 : Below wr.heap.size wr (wr.alloc (Obj.cells #[Value.func (Fn.func n0) #[] cp0, Value.func (Fn.func n1) #[] cp1, Value.func (Fn.func n2) #[] cp2, Value.func (Fn.func n3) #[] cp3] 91)) := ba _
            have hbp : Blk (wr.alloc (Obj.cells #[Value.func (Fn.func n0) #[] cp0, Value.func (Fn.func n1) #[] cp1, Value.func (Fn.func n2) #[] cp2, Value.func (Fn.func n3) #[] cp3] 91)) wr.heap.size #[Value.func (Fn.func n0) #[] cp0, Value.func (Fn.func n1) #[] cp1, Value.func (Fn.func n2) #[] cp2, Value.func (Fn.func n3) #[] cp3] 91 := blkNew rfl
            generalize wr.alloc (Obj.cells #[Value.func (Fn.func n0) #[] cp0, Value.func (Fn.func n1) #[] cp1, Value.func (Fn.func n2) #[] cp2, Value.func (Fn.func n3) #[] cp3] 91) = W1 at hB1 hbp ⊢
            have hst1 := hst0.below' hB1
            have hsz0 := hst0.size
            have hpt1 : PartAt W1 lo hi (.agg #[fnv n0 cp0, fnv n1 cp1, fnv n2 cp2, fnv n3 cp3]) p := HPT.out.step (fun q _ hq => hst1.below.block q (by omega)) (Nat.le_refl _) (Nat.le_refl _)
            clear hst0 HST k0 k1 k2 k3 hB1
            refine (FCalls.calls (part_read p W1 lo hi (w.heap.size + 3) (w.heap.size + 1 + 1) w.heap.size n' c' _ _ _ _ dv A' ys F hpt1 hsm hst1.rest hst1.fd hst1.data (by omega) hst1.size (by have := hst1.len; omega))).mono ?_
            intro e w2 hpost
            cases hrd : rdS p ys F with
            | none =>
              rw [hrd] at hpost
              obtain ⟨rfl, ht⟩ := hpost
              obtain ⟨B, cB, rfl, _⟩ := OwnRow.slice_ hst1.data.2
              go_wp2_with fail
              refine dec_panic _ _ _ rfl rfl w2 121 0 F _ (hst1.fd.tu ht (by simp; omega)) (hst1.code.tu ht (by simp)) (by omega) ?_
              intro w' ht'
              refine dec_err ?_ ((hst1.below.trans (ht.below (by have := hst1.size; omega) (by simp; omega))).trans (ht'.below (by have := hst1.size; have := ht.size; omega) (by simp)))
              rw [HDD.out]
              simp only [decParts]
              rw [hrd]
            | some r =>
              obtain ⟨F', k'⟩ := r
              rw [hrd] at hpost
              obtain ⟨A2, c2, dv2, rfl, hr2, hf2, hd2, ht2⟩ := hpost
              have hst2 := hst1.read hr2 hf2 hd2 ht2 (by omega) (by omega) (by omega)
              have hbp2 := Blk.tu hbp ht2 (by simp; omega)
              have hpt2 : PartAt w2 lo hi (.agg #[fnv n0 cp0, fnv n1 cp1, fnv n2 cp2, fnv n3 cp3]) p := HPT.out.step (fun q _ hq => hst2.below.block q (by omega)) (Nat.le_refl _) (Nat.le_refl _)
              obtain ⟨B, cB, rfl, _⟩ := OwnRow.slice_ hd2.2
              have kb := Blk.cell (i := 1) hbp2 rfl
              have HST2 := Lib.hid hst2
              have HF2 := Lib.hid hf2
              have HP2 := Lib.hid hpt2
              have HRD := Lib.hid hrd
              clear hst1 hst2 hr2 hf2 hd2 ht2 hbp hbp2 hpt1 hpt2 hrd
              go_wp2_with fail
              refine (FCalls.calls (part_fits p w2 lo hi w.heap.size _ _ _ _ B _ cB F' HP2.out HF2.out rfl)).mono ?_
              rintro e w3 ⟨rfl, hb3⟩
              have hst3 := HST2.out.below' hb3
              cases hfit : fitsS p F' with
              | true =>
                go_wp2_with (with_reducible refine (need_yes ..).mono ?_; rintro e w4 ⟨rfl, rfl⟩)
                refine ⟨⟨j + 1, F', _, A2, n' - k', c2, ys.drop k', by omega, by go_num, Lib.hid hst3, Lib.hid ?_⟩, by simp [intOf]; omega⟩
                rw [HDD.out]
                simp only [decParts]
                rw [HRD.out]
                simp [hfit]
              | false =>
                go_wp2_with (with_reducible refine (need_no ..).mono ?_; rintro e w4 ⟨rfl, rfl⟩)
                refine dec_panic _ _ _ rfl rfl _ 123 0 F' _ hst3.fd hst3.code (by omega) ?_
                intro w' ht'
                refine dec_err ?_ (hst3.below.trans (ht'.below (by have := hst3.size; omega) (by simp)))
                rw [HDD.out]
                simp only [decParts]
                rw [HRD.out]
                simp [hfit]
          · have hst := HS.out
            have hjj : j = ps.length := by omega
            have hys := BytesAt.len hst.rest.bytes
            have hdec : decS tab xs = if ys = [] then .ok F else .error 121 := by rw [HD.out, hjj, List.drop_length]; rfl
            have HDD := Lib.hid hdec
            have HST := Lib.hid hst
            have HYS := Lib.hid hys
            have hrd := Blk.cell (i := 0) hst.rest.at_ rfl
            obtain ⟨B, cB, rfl, _⟩ := OwnRow.slice_ hst.data.2
            obtain ⟨c0, c1, c2, c3, c4, c5⟩ := fdCells hst.fd
            have z0 := Blk.frozen (i := 0) hst.fd
            have z1 := Blk.frozen (i := 1) hst.fd
            have z2 := Blk.frozen (i := 2) hst.fd
            have z3 := Blk.frozen (i := 3) hst.fd
            have z4 := Blk.frozen (i := 4) hst.fd
            have z5 := Blk.frozen (i := 5) hst.fd
            have y0 := Blk.frozen (i := 0) hst.code
            have x0 := Blk.cell (i := 0) hst.code rfl
            clear hst hys hdec HS HD
            have dl : decide ((j : Int) < (ps.length : Int)) = false := by simp; omega
            by_cases hn : n' = 0
            · have dn : ((n' : Int) == 0) = true := by rw [hn]; rfl
              clear hjj
              go_wp2_with (with_reducible refine (need_yes ..).mono ?_; rintro e w4 ⟨rfl, rfl⟩)
              have hst := HST.out
              refine dec_ret _ _ _ rfl rfl _ 0 F (.slice B F.data.length cB) ?_ ?_ ?_
              · exact Blk.other (Blk.set (i := 5) (Blk.set (i := 4) (Blk.set (i := 3) (Blk.set (i := 2) (Blk.set (i := 1) (Blk.set (i := 0) hst.fd _) _) _) _) _) _) (by simp) _
              · exact Blk.set (i := 0) (Blk.other (Blk.other (Blk.other (Blk.other (Blk.other (Blk.other hst.code (by simp) _) (by simp) _) (by simp) _) (by simp) _) (by simp) _) (by simp) _) _
              · refine dec_end hst ((((((((Tu.refl _ _).setCell (.inl (by simp)) _).setCell (.inl (by simp)) _).setCell (.inl (by simp)) _).setCell (.inl (by simp)) _).setCell (.inl (by simp)) _).setCell (.inl (by simp)) _).setCell (.inl (by simp)) _) ?_
                rw [HDD.out, if_pos]
                exact List.eq_nil_of_length_eq_zero (by rw [HYS.out]; exact hn)
            · have dn : ((n' : Int) == 0) = false := by simp; omega
              clear hjj
              go_wp2_with (with_reducible refine (need_no ..).mono ?_; rintro e w4 ⟨rfl, rfl⟩)
              have hst := HST.out
              refine dec_panic _ _ _ rfl rfl _ 121 0 F _ hst.fd hst.code (by omega) ?_
              intro w' ht'
              refine dec_err ?_ (hst.below.trans (ht'.below (by have := hst.size; omega) (by simp)))
              rw [HDD.out, if_neg]
              intro e
              have := HYS.out
              rw [e] at this
              simp at this
              omega
      · have d2 : decide ((k : Int) < (tab.length : Int)) = false := by simp; omega
        go_wp2_with (with_reducible refine (need_no ..).mono ?_; rintro e w4 ⟨rfl, rfl⟩)
        refine dec_panic _ _ _ rfl rfl _ 122 0 (fd0 k) (.slice none 0 0) bf3 bc3 (by omega) ?_
        intro w' ht'
        refine dec_err ?_ (hB3.trans (ht'.below (by omega) (by simp)))
        unfold decS
        rw [if_neg (by omega), hk, Int.toNat_natCast, List.getElem?_eq_none (by omega)]
    · have d1 : decide ((k : Int) ≥ 1) = false := by simp; omega
      go_wp2_with (with_reducible refine (need_no ..).mono ?_; rintro e w4 ⟨rfl, rfl⟩)
      refine dec_panic _ _ _ rfl rfl _ 122 0 (fd0 k) (.slice none 0 0) bf3 bc3 (by omega) ?_
      intro w' ht'
      refine dec_err ?_ (hB3.trans (ht'.below (by omega) (by simp)))
      unfold decS
      rw [if_neg (by omega), hk, Int.toNat_natCast]
      split
      · rfl
      · rw [if_pos (by omega)]
end Go.Proofs.Ytpflenaoplblkaa.ProM
