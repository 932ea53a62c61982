/- Texts of Saves: SavesAgain, the walk -/
import Derived.Test.YtmofiicjaldmiaaGreatDoorMd
import Derived.Deep.Slices
import Derived.Deep.Fields
import Derived.ChangeSame
import Derived.Lib.SmallJoins
namespace Go.Proofs.YtmofiicjaldmiaaGreatDoor.SwS
open Go.RowKit Go.Shelf Go.Proofs.YtmofiicjaldmiaaGreatDoorW.PrintWords Go.Proofs.YtmofiicjaldmiaaGreatDoorW.PrintLast Go.Proofs.YtmofiicjaldmiaaGreatDoor.SvA Go.Proofs.YtmofiicjaldmiaaGreatDoor.SvB Go.Proofs.YtmofiicjaldmiaaGreatDoor.SvC Go.Proofs.YtmofiicjaldmiaaGreatDoor.SvD Go.Proofs.YtmofiicjaldmiaaGreatDoor.SvE Go.Proofs.YtmofiicjaldmiaaGreatDoor.SvF Go.Proofs.YtmofiicjaldmiaaGreatDoor.SvG Go.Proofs.YtmofiicjaldmiaaGreatDoor.SvH Go.Proofs.YtmofiicjaldmiaaGreatDoor.SvI Go.Proofs.YtmofiicjaldmiaaGreatDoor.SvJ Go.Proofs.YtmofiicjaldmiaaGreatDoor.SvK Go.Proofs.YtmofiicjaldmiaaGreatDoor.SvL Go.Proofs.YtmofiicjaldmiaaGreatDoor.SvM Go.Proofs.YtmofiicjaldmiaaGreatDoor.SvN Go.Proofs.YtmofiicjaldmiaaGreatDoor.SvO Go.Proofs.YtmofiicjaldmiaaGreatDoor.SvP Go.Proofs.YtmofiicjaldmiaaGreatDoor.SvQ Go.Proofs.YtmofiicjaldmiaaGreatDoor.SvR Go.Proofs.YtmofiicjaldmiaaGreatDoor.SvS Go.Proofs.YtmofiicjaldmiaaGreatDoor.SvT Go.Proofs.YtmofiicjaldmiaaGreatDoor.SvU Go.Proofs.YtmofiicjaldmiaaGreatDoor.SvV Go.Proofs.YtmofiicjaldmiaaGreatDoor.SvW Go.Proofs.YtmofiicjaldmiaaGreatDoor.SvX Go.Proofs.YtmofiicjaldmiaaGreatDoor.SvY Go.Proofs.YtmofiicjaldmiaaGreatDoor.SvZ Go.Proofs.YtmofiicjaldmiaaGreatDoor.SwA Go.Proofs.YtmofiicjaldmiaaGreatDoor.SwB Go.Proofs.YtmofiicjaldmiaaGreatDoor.SwC Go.Proofs.YtmofiicjaldmiaaGreatDoor.SwD Go.Proofs.YtmofiicjaldmiaaGreatDoor.SwE Go.Proofs.YtmofiicjaldmiaaGreatDoor.SwF Go.Proofs.YtmofiicjaldmiaaGreatDoor.SwG Go.Proofs.YtmofiicjaldmiaaGreatDoor.SwI Go.Proofs.YtmofiicjaldmiaaGreatDoor.SwJ Go.Proofs.YtmofiicjaldmiaaGreatDoor.SwK Go.Proofs.YtmofiicjaldmiaaGreatDoor.SwH Go.Proofs.YtmofiicjaldmiaaGreatDoor.SwL Go.Proofs.YtmofiicjaldmiaaGreatDoor.SwM Go.Proofs.YtmofiicjaldmiaaGreatDoor.SwN Go.Proofs.YtmofiicjaldmiaaGreatDoor.SwO Go.Proofs.YtmofiicjaldmiaaGreatDoor.SwP Go.Proofs.YtmofiicjaldmiaaGreatDoor.SwQ Go.Proofs.YtmofiicjaldmiaaGreatDoor.SwR
set_option linter.unusedVariables false
set_option linter.unusedSimpArgs false
open Go.Lib
abbrev again : ByteArray := ⟨#[97, 103, 97, 105, 110]⟩
theorem list_one {w w' : World} {es : List EN} {e : Ending} (h : ListP w es e w') {x : EN} (hx : es = [x]) : ∃ b c, e = .returned (.tuple #[.slice (some ⟨b, 0, none⟩) 1 c, .int .i64 0]) ∧ w'.cell? ⟨b, 0, none⟩ = some (.string x.hd.name) ∧ w'.cell? ⟨b, 1, none⟩ = some (.int .i64 x.hd.ver) ∧ w'.cell? ⟨b, 2, none⟩ = some (.int .i64 x.hd.size) ∧ Below w.heap.size w w' := by
  obtain ⟨z, o, l, rfl, h1, h2, h3, h4, h5⟩ := h
  subst hx
  have hl : l = [infoS x] := List.perm_singleton.1 h4
  subst hl
  have hn : z.n = 1 := (ow_len h1).1.symm
  obtain ⟨gb, hz⟩ := ow_head h1 (by omega)
  obtain ⟨A, n, c⟩ := z
  injection hz with hA _ _
  subst hA
  dsimp only at hn
  subst hn
  obtain ⟨cur, c1, c2, c3, c4, c5, c6⟩ := ow_in h1
  exact ⟨gb, c, rfl, Blk.cell c1 (c6 0 (by omega)), Blk.cell c1 (c6 1 (by omega)), Blk.cell c1 (c6 2 (by omega)), h3⟩
theorem sect_ok (w : World) (own : Nat → Nat) (t gs : Nat) (b : BS) (H : StA w own t gs b) (hz : b.safe.length < 2 ^ 40) : Calls Tryz.prog 22 #[pt gs] w fun e w' => e = .returned (.int .i64 (b.n : Int)) ∧ w = w' := by
  obtain ⟨zs, zp, ps, hg, hbs, hs, hpe, hd⟩ := H
  have hzl : zs.n = b.safe.length := (ow_len hs).1.symm
  have h := sectors_ok w gs zs _ _ _ hbs (by rw [hzl]; exact hz)
  rw [hzl] at h
  exact h
theorem kp_zero {ts : Nat → Prop} {w w' : World} (h : Below w.heap.size w w') : Kp ts w (fun _ => 0) w' (fun _ => 0) := ⟨h.os, h.tape, h.output, h.size, fun k hk _ => ⟨rfl, h.block k hk⟩⟩
/-- behind k puts -/
def AgP (S : SV) (i : Nat) (k n : Nat) : Prop := (k = 0 ∧ (S.ar i).ents = []) ∨ (0 < k ∧ Alone S i again (k : Int) n)
theorem ag_put {S : SV} {N m i k n : Nat} (hg : GS S N m) (hi : i < 8) (h : AgP S i k n) (data : List Int) (hd : data.length = n) (hr : 1 < (S.ar i).heads ∧ many n + many n ≤ (S.ar i).sec - (S.ar i).heads) : (putR S i again data).2 = 0 ∧ Alone (putR S i again data).1 i again ((k + 1 : Nat) : Int) n := by
  subst hd
  rcases h with ⟨rfl, h⟩ | ⟨hk, h⟩
  · exact alone_first hg hi h again data ⟨by omega, by omega⟩
  · exact alone_next hg hi h data hr
theorem ag_del {S : SV} {N m i : Nat} (hg : GS S N m) (hi : i < 8) {v : Int} {n : Nat} (h : Alone S i again v n) : (delR S i again).2 = 0 ∧ ((delR S i again).1.ar i).ents = [] := by
  obtain ⟨e, h1, h2, h3, h4⟩ := h
  unfold delR
  rw [← h2, oldS_one h1]
  refine ⟨rfl, ?_⟩
  show ((delS S i 0 e).ar i).ents = []
  rw [delS_eq, setE_ar, if_pos rfl, h1]
  rfl
/-- how the law stands at the head of a round -/
def AgSt (w : World) (N g gs : Nat) (ga : Nat → Nat) (i n : Nat) (k : Nat) (wr : World) : Prop := ∃ S own' D, SvMem wr own' 100 g gs ga S ∧ GS S N k ∧ CS S D ∧ AgP S i k n ∧ (∀ j, (S.ar j).heads = (N / 8 + 7) / 8 ∧ (S.ar j).sec = N / 8) ∧ Kp (k20 100) w (fun _ => 0) wr own'
end Go.Proofs.YtmofiicjaldmiaaGreatDoor.SwS
namespace Go.Proofs.YtmofiicjaldmiaaGreatDoor.SwT
open Go.RowKit Go.Shelf Go.Proofs.YtmofiicjaldmiaaGreatDoorW.PrintWords Go.Proofs.YtmofiicjaldmiaaGreatDoorW.PrintLast Go.Proofs.YtmofiicjaldmiaaGreatDoor.SvA Go.Proofs.YtmofiicjaldmiaaGreatDoor.SvB Go.Proofs.YtmofiicjaldmiaaGreatDoor.SvC Go.Proofs.YtmofiicjaldmiaaGreatDoor.SvD Go.Proofs.YtmofiicjaldmiaaGreatDoor.SvE Go.Proofs.YtmofiicjaldmiaaGreatDoor.SvF Go.Proofs.YtmofiicjaldmiaaGreatDoor.SvG Go.Proofs.YtmofiicjaldmiaaGreatDoor.SvH Go.Proofs.YtmofiicjaldmiaaGreatDoor.SvI Go.Proofs.YtmofiicjaldmiaaGreatDoor.SvJ Go.Proofs.YtmofiicjaldmiaaGreatDoor.SvK Go.Proofs.YtmofiicjaldmiaaGreatDoor.SvL Go.Proofs.YtmofiicjaldmiaaGreatDoor.SvM Go.Proofs.YtmofiicjaldmiaaGreatDoor.SvN Go.Proofs.YtmofiicjaldmiaaGreatDoor.SvO Go.Proofs.YtmofiicjaldmiaaGreatDoor.SvP Go.Proofs.YtmofiicjaldmiaaGreatDoor.SvQ Go.Proofs.YtmofiicjaldmiaaGreatDoor.SvR Go.Proofs.YtmofiicjaldmiaaGreatDoor.SvS Go.Proofs.YtmofiicjaldmiaaGreatDoor.SvT Go.Proofs.YtmofiicjaldmiaaGreatDoor.SvU Go.Proofs.YtmofiicjaldmiaaGreatDoor.SvV Go.Proofs.YtmofiicjaldmiaaGreatDoor.SvW Go.Proofs.YtmofiicjaldmiaaGreatDoor.SvX Go.Proofs.YtmofiicjaldmiaaGreatDoor.SvY Go.Proofs.YtmofiicjaldmiaaGreatDoor.SvZ Go.Proofs.YtmofiicjaldmiaaGreatDoor.SwA Go.Proofs.YtmofiicjaldmiaaGreatDoor.SwB Go.Proofs.YtmofiicjaldmiaaGreatDoor.SwC Go.Proofs.YtmofiicjaldmiaaGreatDoor.SwD Go.Proofs.YtmofiicjaldmiaaGreatDoor.SwE Go.Proofs.YtmofiicjaldmiaaGreatDoor.SwF Go.Proofs.YtmofiicjaldmiaaGreatDoor.SwG Go.Proofs.YtmofiicjaldmiaaGreatDoor.SwI Go.Proofs.YtmofiicjaldmiaaGreatDoor.SwJ Go.Proofs.YtmofiicjaldmiaaGreatDoor.SwK Go.Proofs.YtmofiicjaldmiaaGreatDoor.SwH Go.Proofs.YtmofiicjaldmiaaGreatDoor.SwL Go.Proofs.YtmofiicjaldmiaaGreatDoor.SwM Go.Proofs.YtmofiicjaldmiaaGreatDoor.SwN Go.Proofs.YtmofiicjaldmiaaGreatDoor.SwO Go.Proofs.YtmofiicjaldmiaaGreatDoor.SwP Go.Proofs.YtmofiicjaldmiaaGreatDoor.SwQ Go.Proofs.YtmofiicjaldmiaaGreatDoor.SwR Go.Proofs.YtmofiicjaldmiaaGreatDoor.SwS
set_option linter.unusedVariables false
set_option linter.unusedSimpArgs false
open Go.ChangeShapes Go.WideShapes Go.Deep Go.Lib Go.Joins
section
variable {H : Type} {enc : TypeId × Value → H} {P : Program} {w : World} {base : Nat} {spare : Nat → Bool} {held : Bool}
theorem open_slice_fields {t e : TypeId} {fs : Array Field} {fuel : Nat} {cs : List Value} {x : DataW H × List MemPlace} (ht : P.underlying t = some (.slice e)) (he : P.underlying e = some (.struct fs))
    (hone : oneCellFields P fs = true) (hC : P.cellsOf e = fs.size) (h : DataW.trod enc P w base spare held fuel t cs = some x) :
    (cs = [.slice none 0 0] ∧ x = (.nil, [])) ∨
    ∃ (a : Addr) (len cap m : Nat) (D : Nat → DataW H) (Pl : Nat → List MemPlace), cs = [.slice (some a) len cap] ∧ base ≤ a.block ∧ len ≤ cap ∧ cap ≤ maxLen ∧ m = (if spare a.block then cap else len) ∧
      x = (.slice ((List.range len).map D) ((List.range (m - len)).map fun j => D (len + j)), MemPlace.row a (m * fs.size) ++ (List.range m).flatMap Pl) ∧
      ∀ i, i < m → ∃ (ys : List (DataW H × List MemPlace)) (n : Nat), D i = .agg (ys.map (·.1)) ∧ Pl i = ys.flatMap (·.2) ∧ ys.length = fs.size ∧
        ∀ (j : Nat) (f : Field), fs[j]? = some f → ∃ (v : Value) (y : DataW H × List MemPlace), w.cell? (a.add (i * fs.size + j)) = some v ∧ ys[j]? = some y ∧ DataW.trod enc P w base spare held n f.type [v] = some y := by
  rcases open_slice ht h with h0 | ⟨a, len, cap, m, n, D, Pl, hcs, hb, hl, hm, hmm, hx, hi⟩
  · exact .inl h0
  · refine .inr ⟨a, len, cap, m, D, Pl, hcs, hb, hl, hm, hmm, by rw [hC] at hx; exact hx, fun i him => ?_⟩
    obtain ⟨cs', hc, ht'⟩ := hi i him
    rw [hC] at hc
    obtain ⟨ys, n', hn', hy, hlen, hyl, hf⟩ := DataW.trod_struct he ht'
    obtain ⟨_, hcl, hat⟩ := World.cells?_some hc
    simp only [Prod.mk.injEq] at hy
    refine ⟨ys, n', hy.1, hy.2, hyl, fun j f hj => ?_⟩
    obtain ⟨ho, hk⟩ := hone_of hone j f hj
    have hjl : j < fs.size := (Array.getElem?_eq_some_iff.1 hj).1
    have hcell := hat j hjl
    have hv : cs'[j]? = some (cs'[j]'(by omega)) := List.getElem?_eq_getElem (by omega)
    have h1 := hf j f hj
    rw [ho, hk] at h1
    have hone' : (cs'.drop j).take 1 = [cs'[j]'(by omega)] := by
      rw [List.drop_eq_getElem_cons (by omega)]
      rfl
    rw [hone'] at h1
    have hys : ys[j]? = some (ys[j]'(by omega)) := List.getElem?_eq_getElem (by omega)
    refine ⟨_, _, ?_, hys, h1.trans hys⟩
    rw [← Go.Deep.add_add, hcell, hv]
end
/-- acts in memory -/
def AcAt (w : World) (A : Option Addr) (xs : List AC) : Prop := ∀ (k : Nat) (x : AC), xs[k]? = some x → x.wf ∧ ∃ ad : Addr, A = some ad ∧ w.cell? (ad.add (k * 4)) = some (.int .i64 x.kind) ∧ w.cell? ⟨(ad.add (k * 4)).block, (ad.add (k * 4)).off + 1, none⟩ = some (.int .i64 x.ten) ∧
  w.cell? ⟨(ad.add (k * 4)).block, (ad.add (k * 4)).off + 2, none⟩ = some (.int .i64 x.nm) ∧ w.cell? ⟨(ad.add (k * 4)).block, (ad.add (k * 4)).off + 3, none⟩ = some (.int .i64 x.bytes)
theorem AcAt.below {w w' : World} {A : Option Addr} {xs : List AC} (h : AcAt w A xs) (hb : Below w.heap.size w w') : AcAt w' A xs := fun k x hx => by
  obtain ⟨h0, ad, h1, h2, h3, h4, h5⟩ := h k x hx
  exact ⟨h0, ad, h1, cellOf hb h2, cellOf hb h3, cellOf hb h4, cellOf hb h5⟩
theorem wf_i64 {n : Int} (h : (Lit.int .i64 n).wf = true) : i64s n := by
  simp [Lit.wf, IntKind.min, IntKind.max, IntKind.signed, IntKind.bits] at h
  exact ⟨by omega, by omega⟩
theorem add_field (x : Addr) (s j : Nat) (hj : 0 < j) : x.add (s + j) = ⟨(x.add s).block, (x.add s).off + j, none⟩ := by
  rw [← Go.Deep.add_add]
  generalize x.add s = y
  unfold Addr.add
  rw [if_neg (by omega)]
set_option maxRecDepth 100000 in
theorem open_acts {H : Type} {enc : TypeId × Value → H} {W : World} {v : Value} {d : DataW H} {p : List MemPlace} (hv : Value.okWide Tryz.prog W .any 0 22 v) (h : DataW.Trod enc Tryz.prog W 0 (fun _ => true) true 22 v d p) :
    ∃ (A : Option Addr) (c : Nat) (xs : List AC), v = .slice A xs.length c ∧ AcAt W A xs ∧ xs.length ≤ c ∧ xs.length ≤ 9223372036854775807 := by
  obtain ⟨A, n, c, rfl⟩ := okWide_slice Tryz.underlying22 hv
  obtain ⟨fuel, hf⟩ := h
  rcases open_slice_fields Tryz.underlying22 Tryz.underlying33 (by kernel_rfl) (by kernel_rfl) hf with ⟨hcs, _⟩ | ⟨a, len, cap, m, D, Pl, hcs, _, hl, hm, hmm, hx, hi⟩
  · simp [Value.cells] at hcs
    obtain ⟨rfl, rfl, rfl⟩ := hcs
    exact ⟨none, 0, [], rfl, (fun k x hx => by simp at hx), by simp, by simp⟩
  · simp [Value.cells] at hcs
    obtain ⟨rfl, rfl, rfl⟩ := hcs
    have hcm : c = m := by rw [hmm]; simp
    have hone : ∀ i, ∃ x : AC, i < n → x.wf ∧ W.cell? (a.add (i * 4)) = some (.int .i64 x.kind) ∧ W.cell? ⟨(a.add (i * 4)).block, (a.add (i * 4)).off + 1, none⟩ = some (.int .i64 x.ten) ∧ W.cell? ⟨(a.add (i * 4)).block, (a.add (i * 4)).off + 2, none⟩ = some (.int .i64 x.nm) ∧ W.cell? ⟨(a.add (i * 4)).block, (a.add (i * 4)).off + 3, none⟩ = some (.int .i64 x.bytes) := fun i => by
      by_cases hin : i < n
      · obtain ⟨ys, k, hD, _, hys, hf⟩ := hi i (by omega)
        obtain ⟨v0, y0, c0, _, t0⟩ := hf 0 _ rfl
        obtain ⟨v1, y1, c1, _, t1⟩ := hf 1 _ rfl
        obtain ⟨v2, y2, c2, _, t2⟩ := hf 2 _ rfl
        obtain ⟨v3, y3, c3, _, t3⟩ := hf 3 _ rfl
        obtain ⟨n0, e0, _, w0⟩ := DataW.trod_int (k := .i64) Tryz.underlying3 t0
        obtain ⟨n1, e1, _, w1⟩ := DataW.trod_int (k := .i64) Tryz.underlying3 t1
        obtain ⟨n2, e2, _, w2⟩ := DataW.trod_int (k := .i64) Tryz.underlying3 t2
        obtain ⟨n3, e3, _, w3⟩ := DataW.trod_int (k := .i64) Tryz.underlying3 t3
        simp at e0 e1 e2 e3
        subst e0 e1 e2 e3
        exact ⟨⟨n0, n1, n2, n3⟩, fun _ => ⟨⟨wf_i64 w0, wf_i64 w1, wf_i64 w2, wf_i64 w3⟩, c0, by rw [← add_field _ _ 1 (by omega)]; exact c1, by rw [← add_field _ _ 2 (by omega)]; exact c2, by rw [← add_field _ _ 3 (by omega)]; exact c3⟩⟩
      · exact ⟨⟨0, 0, 0, 0⟩, fun h => absurd h hin⟩
    obtain ⟨g, hg⟩ := Classical.axiomOfChoice hone
    have hlen : ((List.range n).map g).length = n := by simp
    refine ⟨some a, c, (List.range n).map g, by rw [hlen], fun k x hx => ?_, by rw [hlen]; exact hl, by rw [hlen]; unfold maxLen at hm; omega⟩
    have hjn : k < n := by
      have := (List.getElem?_eq_some_iff.1 hx).1
      omega
    rw [List.getElem?_map, List.getElem?_range hjn] at hx
    simp at hx
    subst hx
    obtain ⟨g0, g1, g2, g3, g4⟩ := hg k hjn
    exact ⟨g0, a, rfl, g1, g2, g3, g4⟩
set_option maxRecDepth 100000 in
theorem open_act {H : Type} {enc : TypeId × Value → H} {W : World} {v : Value} {d : DataW H} {p : List MemPlace} (hv : Value.okWide Tryz.prog W .any 0 33 v) (h : DataW.Trod enc Tryz.prog W 0 (fun _ => true) true 33 v d p) :
    ∃ x : AC, v = x.enc ∧ x.wf := by
  obtain ⟨v0, v1, v2, v3, y0, y1, y2, y3, n, rfl, _, _, h0, h1, h2, h3⟩ := open_agg4 Tryz.underlying33 (by kernel_rfl) (by kernel_rfl) hv h
  obtain ⟨n0, e0, _, w0⟩ := DataW.trod_int (k := .i64) Tryz.underlying3 h0
  obtain ⟨n1, e1, _, w1⟩ := DataW.trod_int (k := .i64) Tryz.underlying3 h1
  obtain ⟨n2, e2, _, w2⟩ := DataW.trod_int (k := .i64) Tryz.underlying3 h2
  obtain ⟨n3, e3, _, w3⟩ := DataW.trod_int (k := .i64) Tryz.underlying3 h3
  simp at e0 e1 e2 e3
  subst e0 e1 e2 e3
  exact ⟨⟨n0, n1, n2, n3⟩, rfl, wf_i64 w0, wf_i64 w1, wf_i64 w2, wf_i64 w3⟩
theorem does_at (w : World) (own : Nat → Nat) (t g gs : Nat) (ga : Nat → Nat) (S : SV) (H : SvMem w own t g gs ga S) (ht : t ≠ 0) {n m : Nat} (hg : GS S n m) (hm : m + 1 < 4294967296) (W : World) (h : Below w.heap.size w W) (a : AC) (ha : a.wf) (most : Int) (h1 : 1 ≤ most) (h2 : most ≤ 100000) :
    Calls Tryz.prog 18 #[a.enc, pt g, .int .i64 most] W (ActR w own t g gs ga (doS S a most)) := by
  refine (does_ok W (tagged w own 0) t g gs ga S (H.below h) ht n m hg hm a ha most h1 h2).mono ?_
  intro e w' hr
  exact ActR.back hr (Kp.below h 0)
def doD (S : SV) (D : Nat → ByteArray → List Int) (a : AC) (most : Int) : Nat → ByteArray → List Int := if a.puts = true ∧ roomS (S.ar a.t0) (a.data most).length = true then putD D a.t0 a.name (a.data most) else D
theorem doS_all {S : SV} {n m : Nat} {D : Nat → ByteArray → List Int} (h : GS S n m) (hc : CS S D) (a : AC) (most : Int) (h1 : 1 ≤ most) (h2 : most ≤ 100000) (hm : m + 1 < 4294967296) : GS (doS S a most).1 n (m + 1) ∧ CS (doS S a most).1 (doD S D a most) := by
  unfold doS doD
  cases hp : a.puts
  · rw [if_neg (by decide), if_neg (by simp)]
    obtain ⟨x, y⟩ := delR_all h hc a.t0 a.t0_lt.1 a.name
    exact ⟨x.mono (by omega), y⟩
  · rw [if_pos rfl]
    have := putR_all h hc a.t0 a.t0_lt.1 a.name (AC.name_ok a) (a.data most) (dataS_u8 _ _) (by rw [AC.data_len]; have := (a.len_lt most (by omega)).1; omega) hm
    refine ⟨this.1, ?_⟩
    cases hr : roomS (S.ar a.t0) (a.data most).length
    · rw [hr] at this
      rw [if_neg (by simp)]
      exact this.2
    · rw [hr] at this
      rw [if_pos ⟨rfl, rfl⟩]
      exact this.2
theorem doS_put {S : SV} {a : AC} {most : Int} (hp : a.puts = true) : (doS S a most).2 = if roomS (S.ar a.t0) (a.len most) then 0 else 112 := by
  unfold doS putR
  rw [if_pos hp, AC.data_len]
  split <;> rfl
end Go.Proofs.YtmofiicjaldmiaaGreatDoor.SwT
namespace Go.Proofs.YtmofiicjaldmiaaGreatDoor.SwX
open Go.RowKit Go.Shelf Go.Proofs.YtmofiicjaldmiaaGreatDoorW.PrintWords Go.Proofs.YtmofiicjaldmiaaGreatDoorW.PrintLast Go.Proofs.YtmofiicjaldmiaaGreatDoor.SvA Go.Proofs.YtmofiicjaldmiaaGreatDoor.SvB Go.Proofs.YtmofiicjaldmiaaGreatDoor.SvC Go.Proofs.YtmofiicjaldmiaaGreatDoor.SvD Go.Proofs.YtmofiicjaldmiaaGreatDoor.SvE Go.Proofs.YtmofiicjaldmiaaGreatDoor.SvF Go.Proofs.YtmofiicjaldmiaaGreatDoor.SvG Go.Proofs.YtmofiicjaldmiaaGreatDoor.SvH Go.Proofs.YtmofiicjaldmiaaGreatDoor.SvI Go.Proofs.YtmofiicjaldmiaaGreatDoor.SvJ Go.Proofs.YtmofiicjaldmiaaGreatDoor.SvK Go.Proofs.YtmofiicjaldmiaaGreatDoor.SvL Go.Proofs.YtmofiicjaldmiaaGreatDoor.SvM Go.Proofs.YtmofiicjaldmiaaGreatDoor.SvN Go.Proofs.YtmofiicjaldmiaaGreatDoor.SvO Go.Proofs.YtmofiicjaldmiaaGreatDoor.SvP Go.Proofs.YtmofiicjaldmiaaGreatDoor.SvQ Go.Proofs.YtmofiicjaldmiaaGreatDoor.SvR Go.Proofs.YtmofiicjaldmiaaGreatDoor.SvS Go.Proofs.YtmofiicjaldmiaaGreatDoor.SvT Go.Proofs.YtmofiicjaldmiaaGreatDoor.SvU Go.Proofs.YtmofiicjaldmiaaGreatDoor.SvV Go.Proofs.YtmofiicjaldmiaaGreatDoor.SvW Go.Proofs.YtmofiicjaldmiaaGreatDoor.SvX Go.Proofs.YtmofiicjaldmiaaGreatDoor.SvY Go.Proofs.YtmofiicjaldmiaaGreatDoor.SvZ Go.Proofs.YtmofiicjaldmiaaGreatDoor.SwA Go.Proofs.YtmofiicjaldmiaaGreatDoor.SwB Go.Proofs.YtmofiicjaldmiaaGreatDoor.SwC Go.Proofs.YtmofiicjaldmiaaGreatDoor.SwD Go.Proofs.YtmofiicjaldmiaaGreatDoor.SwE Go.Proofs.YtmofiicjaldmiaaGreatDoor.SwF Go.Proofs.YtmofiicjaldmiaaGreatDoor.SwG Go.Proofs.YtmofiicjaldmiaaGreatDoor.SwI Go.Proofs.YtmofiicjaldmiaaGreatDoor.SwJ Go.Proofs.YtmofiicjaldmiaaGreatDoor.SwK Go.Proofs.YtmofiicjaldmiaaGreatDoor.SwH Go.Proofs.YtmofiicjaldmiaaGreatDoor.SwL Go.Proofs.YtmofiicjaldmiaaGreatDoor.SwM Go.Proofs.YtmofiicjaldmiaaGreatDoor.SwN Go.Proofs.YtmofiicjaldmiaaGreatDoor.SwO Go.Proofs.YtmofiicjaldmiaaGreatDoor.SwP Go.Proofs.YtmofiicjaldmiaaGreatDoor.SwQ Go.Proofs.YtmofiicjaldmiaaGreatDoor.SwR Go.Proofs.YtmofiicjaldmiaaGreatDoor.SwS Go.Proofs.YtmofiicjaldmiaaGreatDoor.SwT
set_option linter.unusedVariables false
set_option linter.unusedSimpArgs false
open Go.Lib
theorem bax {a b : ByteArray} (h : a ≠ b) : (a == b) = false := by
  rw [Bool.eq_false_iff]
  exact fun q => h ((ba_beq _ _).1 q)
abbrev strK : Kd ByteArray := Kd.string
theorem info9 : (Tryz.prog.info? 9).map (fun i => (i.zero, i.size, i.bytes)) = some (some (.string ⟨#[]⟩), 1, 16) := by kernel_rfl
/-! plain -/
def hasS (S : SV) (t : Nat) (name : ByteArray) : Bool := (oldS (S.ar t) name).isSome
def cellV (S : SV) (D : Nat → ByteArray → List Int) (t n : Nat) : ByteArray := if hasS S t (nmS n) then ⟨#[61]⟩ ++ strOfNums (D t (nmS n)) else ⟨#[45]⟩
def vwR (S : SV) (D : Nat → ByteArray → List Int) (t k : Nat) : List ByteArray := (List.range k).map (cellV S D t)
def vwP (S : SV) (D : Nat → ByteArray → List Int) (t : Nat) : List ByteArray := (List.range t).flatMap (fun t => vwR S D t 6)
theorem vwR_succ (S : SV) (D : Nat → ByteArray → List Int) (t k : Nat) : vwR S D t (k + 1) = vwR S D t k ++ [cellV S D t k] := by simp [vwR, List.range_succ]
theorem vwP_succ (S : SV) (D : Nat → ByteArray → List Int) (t : Nat) : vwP S D (t + 1) = vwP S D t ++ vwR S D t 6 := by simp [vwP, List.range_succ]
theorem vwR_len (S : SV) (D : Nat → ByteArray → List Int) (t k : Nat) : (vwR S D t k).length = k := by simp [vwR]
theorem vwP_len (S : SV) (D : Nat → ByteArray → List Int) (t : Nat) : (vwP S D t).length = 6 * t := by
  induction t with
  | zero => rfl
  | succ t ih => rw [vwP_succ, List.length_append, ih, vwR_len]; omega
/-- names that are spoken of -/
def GN (S : SV) : Prop := ∀ t, t < 8 → ∀ e ∈ (S.ar t).ents, ∃ n, n < 6 ∧ e.hd.name = nmS n
def cntP (S : SV) (t k : Nat) : Nat := ((List.range k).filter (fun n => hasS S t (nmS n))).length
theorem cntP_succ (S : SV) (t k : Nat) : cntP S t (k + 1) = cntP S t k + (if hasS S t (nmS k) then 1 else 0) := by
  unfold cntP
  rw [List.range_succ, List.filter_append, List.length_append]
  congr 1
  cases h : hasS S t (nmS k) <;> simp [h]
theorem hasS_iff {S : SV} {t : Nat} {name : ByteArray} : hasS S t name = true ↔ ∃ e ∈ (S.ar t).ents, e.hd.name = name := by
  unfold hasS
  rcases ho : oldS (S.ar t) name with _ | ⟨k, e⟩
  · have := oldS_no ho
    simp only [Option.isSome_none, Bool.false_eq_true, false_iff]
    rintro ⟨e, he, hn⟩
    exact this e he hn
  · obtain ⟨o1, o2⟩ := oldS_name ho
    simp only [Option.isSome_some, true_iff]
    exact ⟨e, List.mem_of_getElem? o2, o1⟩
def ix (name : ByteArray) : Nat := if name == nmS 0 then 0 else if name == nmS 1 then 1 else if name == nmS 2 then 2 else if name == nmS 3 then 3 else if name == nmS 4 then 4 else 5
theorem ix_nm {n : Nat} (h : n < 6) : ix (nmS n) = n := by
  rcases (show n = 0 ∨ n = 1 ∨ n = 2 ∨ n = 3 ∨ n = 4 ∨ n = 5 by omega) with rfl | rfl | rfl | rfl | rfl | rfl <;> decide
theorem fil_len {α : Type} (p : α → Bool) (l : List α) : (l.filter p).length + (l.filter (fun x => !p x)).length = l.length := by
  induction l with
  | nil => rfl
  | cons x l ih =>
    rw [List.filter_cons, List.filter_cons]
    cases p x <;> simp <;> omega
theorem cntP_all {S : SV} {n m t : Nat} (hg : GA n t m (S.ar t)) (ht : t < 8) (hn : GN S) : cntP S t 6 = (S.ar t).ents.length := by
  have hnn := hn t ht
  have hL : ((S.ar t).ents.map (fun e => ((ix e.hd.name : Nat) : Int))).Nodup := by
    have h1 := hg.nd
    unfold List.Nodup at h1 ⊢
    rw [List.pairwise_map] at h1 ⊢
    refine List.Pairwise.imp_of_mem ?_ h1
    intro a b ha hb hab he
    obtain ⟨p, hp, hpe⟩ := hnn a ha
    obtain ⟨q, hq, hqe⟩ := hnn b hb
    rw [hpe, hqe, ix_nm hp, ix_nm hq] at he
    exact hab (by rw [hpe, hqe, show p = q by omega])
  have h1 := free_cnt 0 6 _ hL (fun x hx => by
    obtain ⟨e, he, rfl⟩ := List.mem_map.1 hx
    obtain ⟨p, hp, hpe⟩ := hnn e he
    rw [hpe, ix_nm hp]
    omega)
  rw [List.length_map] at h1
  have h2 : (List.range' 0 6).filter (fun n : Nat => !((S.ar t).ents.map (fun e => ((ix e.hd.name : Nat) : Int))).contains (n : Int)) = (List.range 6).filter (fun n => !hasS S t (nmS n)) := by
    rw [← List.range_eq_range']
    apply List.filter_congr
    intro n hnm
    have hn6 := List.mem_range.1 hnm
    congr 1
    rw [Bool.eq_iff_iff, List.contains_iff_mem, hasS_iff, List.mem_map]
    constructor
    · rintro ⟨e, he, hq⟩
      obtain ⟨p, hp, hpe⟩ := hnn e he
      rw [hpe, ix_nm hp] at hq
      exact ⟨e, he, by rw [hpe, show p = n by omega]⟩
    · rintro ⟨e, he, hq⟩
      exact ⟨e, he, by rw [hq, ix_nm hn6]⟩
  rw [h2] at h1
  have h3 : ((List.range 6).filter (fun n => hasS S t (nmS n))).length + ((List.range 6).filter (fun n => !hasS S t (nmS n))).length = 6 := by
    have := fil_len (fun n => hasS S t (nmS n)) (List.range 6)
    rw [List.length_range] at this
    omega
  unfold cntP
  omega
/-- what view leaves -/
def ViewP (w : World) (xs : List ByteArray) (e : Ending) (w' : World) : Prop := ∃ (z : Sl) (o : Nat → Nat), e = .returned (.tuple #[z.enc, .bool true]) ∧ Ow strK 9 w' o 2 z xs ∧ (∀ k, k < w.heap.size → o k = 0) ∧ Below w.heap.size w w'
theorem str_size (xs : List Int) : (strOfNums xs).size = xs.length := by
  show ((xs.map fun n => UInt8.ofNat n.toNat).toArray).size = _
  simp
theorem str_M (W : World) (s : ByteArray) : strK.M W 0 (fun _ => False) s [.string s] := rfl
set_option maxRecDepth 100000 in
set_option maxHeartbeats 4000000 in
theorem view_ok (w : World) (own : Nat → Nat) (tg g gs : Nat) (ga : Nat → Nat) (S : SV) (H : SvMem w own tg g gs ga S) {n m : Nat} {D : Nat → ByteArray → List Int} (hg : GS S n m) (hc : CS S D) (hn : 8 ≤ n) (hN : GN S) : Calls Tryz.prog 21 #[pt g] w (ViewP w (vwP S D 8)) := by
  have HGY := Lib.hid (fun (t k : Nat) (ht : t < 8) (hk : k < 6) (hh : hasS S t (nmS k) = true) (W : World) (h : Below w.heap.size w W) => SwR.get_at w own tg g gs ga S H hg hc hn W h t ht (nmS k) (nmS_ok k hk) hh)
  have HGN := Lib.hid (fun (t k : Nat) (ht : t < 8) (hk : k < 6) (hh : oldS (S.ar t) (nmS k) = none) (W : World) (h : Below w.heap.size w W) => get_miss W _ tg g gs ga S (H.below h) hg t ht (nmS k) (nmS_ok k hk) hh)
  have HL := Lib.hid (fun (t : Nat) (ht : t < 8) (W : World) (h : Below w.heap.size w W) => list_at w own tg g gs ga S H hg W h t ht)
  have HCN := Lib.hid (fun (t : Nat) (ht : t < 8) => cntP_all (hg.ar t ht) ht hN)
  have HDL := Lib.hid (fun (t k : Nat) (ht : t < 8) (hh : hasS S t (nmS k) = true) => (show (D t (nmS k)).length ≤ 131072 by
    obtain ⟨e, he, hn⟩ := hasS_iff.1 hh
    have h1 := ((hc t ht).ge e he).size
    rw [hn] at h1
    have h2 := ((hg.ar t ht).ok e he).2.2.2.2.1
    omega))
  have HEL := Lib.hid (fun (t : Nat) (ht : t < 8) => (show (S.ar t).ents.length < 1000000 by have h1 := (hg.ar t ht).len_le; rw [(hg.ar t ht).hds] at h1; have := hg.hn; omega))
  clear H hg hc hN
  go_enter Tryz.func21, Tryz.ntmps21
  go_wp2_with fail
  go_loopw [5, 4, 6, 7, 8, 9, 10, 11] (fun v l _ _ _ _ _ _ wr => ∃ t : Nat, t ≤ 8 ∧ v = .int .i64 ((t : Int) + 1) ∧ ∃ (s : Sl) (o : Nat → Nat), l = .slice s.A s.n s.c ∧ Ow strK 9 wr o 2 s (vwP S D t) ∧ Kp (fun q => q = 2) w (fun _ => 0) wr o) (fun v _ _ _ _ _ _ _ _ => 9 - (intOf v).toNat)
  case atStart => exact ⟨0, by omega, rfl, nilS, fun _ => 0, rfl, Kd.R_nil _ _ _ _ _, Kp.refl _ _ _⟩
  case round =>
    obtain ⟨t, ht, rfl, s, o, rfl, hs, hkp⟩ := hrel
    by_cases hlt : t < 8
    · have dl : decide ((t : Int) + 1 ≤ 8) = true := by simp; omega
      have HS := Lib.hid hs
      have HK := Lib.hid hkp
      clear hs hkp
      go_wp2_with fail
      go_loopw [7, 6, 4, 8, 9] (fun v mn l _ _ wr2 => ∃ k : Nat, k ≤ 6 ∧ v = .int .i64 (k : Int) ∧ mn = .int .i64 (cntP S t k : Int) ∧ ∃ (s : Sl) (o : Nat → Nat), l = .slice s.A s.n s.c ∧ Ow strK 9 wr2 o 2 s (vwP S D t ++ vwR S D t k) ∧ Kp (fun q => q = 2) w (fun _ => 0) wr2 o) (fun v _ _ _ _ _ => 6 - (intOf v).toNat)
      case atStart => exact ⟨0, by omega, rfl, rfl, s, o, rfl, by rw [show vwP S D t ++ vwR S D t 0 = vwP S D t from List.append_nil _]; exact HS.out, HK.out⟩
      case round =>
        clear HS HK
        obtain ⟨k, hk, rfl, rfl, s2, o2, rfl, hs, hkp⟩ := hrel
        have hb := kp_below hkp (by decide)
        have hxl : (vwP S D t ++ vwR S D t k).length < 100 := by rw [List.length_append, vwP_len, vwR_len]; omega
        have hcb : cntP S t k ≤ 6 := by
          unfold cntP
          have := List.length_filter_le (fun n => hasS S t (nmS n)) (List.range k)
          rw [List.length_range] at this
          omega
        by_cases hlk : k < 6
        · have dk : decide ((k : Int) < 6) = true := by simp; omega
          have hk6 : (k : Int) < 6 := by omega
          have HB := Lib.hid hb
          have hnc : ∀ W : World, (W.alloc (.cells #[.string (nmS 0), .string (nmS 1), .string (nmS 2), .string (nmS 3), .string (nmS 4), .string (nmS 5)] 9)).cell? ⟨W.heap.size, k, none⟩ = some (.string (nmS k)) := fun W => names_cell W k hlk
          have HKP := Lib.hid hkp
          have HS := Lib.hid hs
          have hcs := cntP_succ S t k
          have hvs : vwP S D t ++ vwR S D t (k + 1) = vwP S D t ++ vwR S D t k ++ [cellV S D t k] := by rw [vwR_succ, List.append_assoc]
          cases hh : hasS S t (nmS k)
          · rw [hh, if_neg (by decide)] at hcs
            have hcv0 : cellV S D t k = ⟨#[45]⟩ := by unfold cellV; rw [hh]; rfl
            rw [hcv0] at hvs
            have hno : oldS (S.ar t) (nmS k) = none := by unfold hasS at hh; exact Option.not_isSome_iff_eq_none.1 (by rw [hh]; decide)
            have HG := Lib.hid (fun (W : World) (h : Below w.heap.size w W) => HGN.out t k hlt hlk hno W h)
            generalize vwP S D t ++ vwR S D t k = xs at *
            have HV := Lib.hid hvs
            have HC := Lib.hid hcs
            clear hs hkp hb hvs hcs hcv0 hno
            go_wp2_with (first
              | (go_at_call 36; refine (names_ok _).mono ?_; rintro e w3 ⟨rfl, rfl⟩; have hn1 := hnc wr)
              | (go_at_call 32; (with_reducible refine Calls.mono (HG.out _ (HB.out.alloc HB.out.size _)) ?_); rintro e w4 ⟨rfl, z3⟩; have hb4 := (ba (w := wr) (.cells #[.string (nmS 0), .string (nmS 1), .string (nmS 2), .string (nmS 3), .string (nmS 4), .string (nmS 5)] 9)).trans (z3.mono (by simp)); have HS4 := Lib.hid (HS.out.keep (Kp.below (ts := fun _ => False) hb4 0) (fun q => q)); have HK4 := Lib.hid (HKP.out.trans (Kp.below hb4 0)); clear z3 hb4)
              | (at_builtin; refine ow_append strK (W := w4) rfl (.tmp 43) (.tmp 44) 38 9 (.string ⟨#[]⟩) 16 rfl Tryz.underlying38 info9 rfl (by decide) (by decide) s2 xs (⟨#[45]⟩ : ByteArray) [.string (⟨#[45]⟩ : ByteArray)] (tagged wr o2 0) 2 rfl rfl rfl HS4.out (by omega) ?_; intro s1 w5 h5 h6; have HR := Lib.hid (And.intro h5 h6); clear h5 h6; unfold Sl.enc))
            go_roundw
            case rel => exact ⟨k + 1, by omega, by go_num, by rw [HC.out]; rfl, s1, _, rfl, by rw [HV.out]; exact HR.out.1, HK4.out.trans HR.out.2⟩
            case measure => simp [intOf]; omega
          · rw [hh, if_pos rfl] at hcs
            have hcv0 : cellV S D t k = ⟨#[61]⟩ ++ strOfNums (D t (nmS k)) := by unfold cellV; rw [if_pos hh]
            rw [hcv0] at hvs
            have hdl := HDL.out t k hlt hh
            have hds : (strOfNums (D t (nmS k))).size ≤ 131072 := by rw [str_size]; exact hdl
            have HG := Lib.hid (fun (W : World) (h : Below w.heap.size w W) => HGY.out t k hlt hlk hh W h)
            generalize D t (nmS k) = dt at *
            generalize vwP S D t ++ vwR S D t k = xs at *
            have HV := Lib.hid hvs
            have HC := Lib.hid hcs
            clear hs hkp hb hvs hcs hcv0
            go_wp2_with (first
              | (go_at_call 36; refine (names_ok _).mono ?_; rintro e w3 ⟨rfl, rfl⟩; have hn1 := hnc wr)
              | (go_at_call 32; (with_reducible refine Calls.mono (HG.out _ (HB.out.alloc HB.out.size _)) ?_); rintro e w4 ⟨⟨zA, zn, zc⟩, zo, rfl, z1, z2, z3⟩; have hcv := conv_str (w := w4) (c := zc) (ow_len z1).2.2; have hb4 := (ba (w := wr) (.cells #[.string (nmS 0), .string (nmS 1), .string (nmS 2), .string (nmS 3), .string (nmS 4), .string (nmS 5)] 9)).trans (z3.mono (by simp)); have HS4 := Lib.hid (HS.out.keep (Kp.below (ts := fun _ => False) hb4 0) (fun q => q)); have HK4 := Lib.hid (HKP.out.trans (Kp.below hb4 0)); clear z1 z2 z3 hb4; unfold Sl.enc; dsimp only at hcv ⊢)
              | (at_builtin; refine ow_append strK (W := w4) rfl (.tmp 35) (.tmp 39) 38 9 (.string ⟨#[]⟩) 16 rfl Tryz.underlying38 info9 rfl (by decide) (by decide) s2 xs ((⟨#[61]⟩ : ByteArray) ++ strOfNums dt) [.string ((⟨#[61]⟩ : ByteArray) ++ strOfNums dt)] (tagged wr o2 0) 2 rfl rfl rfl HS4.out (by omega) ?_; intro s1 w5 h5 h6; have HR := Lib.hid (And.intro h5 h6); clear h5 h6; unfold Sl.enc))
            go_roundw
            case rel => exact ⟨k + 1, by omega, by go_num, by rw [HC.out]; rfl, s1, _, rfl, by rw [HV.out]; exact HR.out.1, HK4.out.trans HR.out.2⟩
            case measure => simp [intOf]; omega
        · have dk : decide ((k : Int) < 6) = false := by simp; omega
          obtain rfl : k = 6 := by omega
          have hcn := HCN.out t hlt
          have hel := HEL.out t hlt
          have HLL := Lib.hid (HL.out t hlt)
          rw [hcn]
          rw [← vwP_succ] at hs
          have HB := Lib.hid hb
          have HKP := Lib.hid hkp
          have HS := Lib.hid hs
          generalize hee : (S.ar t).ents.length = en at *
          have HEE := Lib.hid hee
          clear hs hkp hb hxl hcb hcn hee
          have hek : ((en : Int) != (en : Int)) = false := by simp
          go_wp2_with (go_at_call 25; (with_reducible refine Calls.mono (HLL.out _ HB.out) ?_); rintro e w5 ⟨⟨zA, zn, zc⟩, zo, l, rfl, z1, z2, z3, z4, z5⟩; obtain rfl : zn = en := ((ow_len z1).1.symm.trans z4.length_eq).trans ((List.length_map _).trans HEE.out); have HZ := Lib.hid z3; clear z1 z2 z3 z4 z5; unfold Sl.enc; dsimp only)
          go_roundw
          case rel => exact ⟨t + 1, by omega, by go_num, s2, _, rfl, HS.out.keep (Kp.below (ts := fun _ => False) HZ.out 0) (fun q => q), HKP.out.trans (Kp.below HZ.out 0)⟩
          case measure => simp [intOf]; omega
    · have dl : decide ((t : Int) + 1 ≤ 8) = false := by simp; omega
      obtain rfl : t = 8 := by omega
      have HE := Lib.hid (show ViewP w (vwP S D 8) (.returned (.tuple #[.slice s.A s.n s.c, .bool true])) wr from ⟨s, o, rfl, hs, fun k hk => (hkp.block k hk (by decide)).1, kp_below hkp (by decide)⟩)
      clear hs hkp
      go_wp2_with fail
      go_ret2
      exact HE.out
end Go.Proofs.YtmofiicjaldmiaaGreatDoor.SwX
namespace Go.Proofs.YtmofiicjaldmiaaGreatDoor.SwY
open Go.RowKit Go.Shelf Go.Proofs.YtmofiicjaldmiaaGreatDoorW.PrintWords Go.Proofs.YtmofiicjaldmiaaGreatDoorW.PrintLast Go.Proofs.YtmofiicjaldmiaaGreatDoor.SvA Go.Proofs.YtmofiicjaldmiaaGreatDoor.SvB Go.Proofs.YtmofiicjaldmiaaGreatDoor.SvC Go.Proofs.YtmofiicjaldmiaaGreatDoor.SvD Go.Proofs.YtmofiicjaldmiaaGreatDoor.SvE Go.Proofs.YtmofiicjaldmiaaGreatDoor.SvF Go.Proofs.YtmofiicjaldmiaaGreatDoor.SvG Go.Proofs.YtmofiicjaldmiaaGreatDoor.SvH Go.Proofs.YtmofiicjaldmiaaGreatDoor.SvI Go.Proofs.YtmofiicjaldmiaaGreatDoor.SvJ Go.Proofs.YtmofiicjaldmiaaGreatDoor.SvK Go.Proofs.YtmofiicjaldmiaaGreatDoor.SvL Go.Proofs.YtmofiicjaldmiaaGreatDoor.SvM Go.Proofs.YtmofiicjaldmiaaGreatDoor.SvN Go.Proofs.YtmofiicjaldmiaaGreatDoor.SvO Go.Proofs.YtmofiicjaldmiaaGreatDoor.SvP Go.Proofs.YtmofiicjaldmiaaGreatDoor.SvQ Go.Proofs.YtmofiicjaldmiaaGreatDoor.SvR Go.Proofs.YtmofiicjaldmiaaGreatDoor.SvS Go.Proofs.YtmofiicjaldmiaaGreatDoor.SvT Go.Proofs.YtmofiicjaldmiaaGreatDoor.SvU Go.Proofs.YtmofiicjaldmiaaGreatDoor.SvV Go.Proofs.YtmofiicjaldmiaaGreatDoor.SvW Go.Proofs.YtmofiicjaldmiaaGreatDoor.SvX Go.Proofs.YtmofiicjaldmiaaGreatDoor.SvY Go.Proofs.YtmofiicjaldmiaaGreatDoor.SvZ Go.Proofs.YtmofiicjaldmiaaGreatDoor.SwA Go.Proofs.YtmofiicjaldmiaaGreatDoor.SwB Go.Proofs.YtmofiicjaldmiaaGreatDoor.SwC Go.Proofs.YtmofiicjaldmiaaGreatDoor.SwD Go.Proofs.YtmofiicjaldmiaaGreatDoor.SwE Go.Proofs.YtmofiicjaldmiaaGreatDoor.SwF Go.Proofs.YtmofiicjaldmiaaGreatDoor.SwG Go.Proofs.YtmofiicjaldmiaaGreatDoor.SwI Go.Proofs.YtmofiicjaldmiaaGreatDoor.SwJ Go.Proofs.YtmofiicjaldmiaaGreatDoor.SwK Go.Proofs.YtmofiicjaldmiaaGreatDoor.SwH Go.Proofs.YtmofiicjaldmiaaGreatDoor.SwL Go.Proofs.YtmofiicjaldmiaaGreatDoor.SwM Go.Proofs.YtmofiicjaldmiaaGreatDoor.SwN Go.Proofs.YtmofiicjaldmiaaGreatDoor.SwO Go.Proofs.YtmofiicjaldmiaaGreatDoor.SwP Go.Proofs.YtmofiicjaldmiaaGreatDoor.SwQ Go.Proofs.YtmofiicjaldmiaaGreatDoor.SwR Go.Proofs.YtmofiicjaldmiaaGreatDoor.SwS Go.Proofs.YtmofiicjaldmiaaGreatDoor.SwT Go.Proofs.YtmofiicjaldmiaaGreatDoor.SwX
set_option linter.unusedVariables false
set_option linter.unusedSimpArgs false
theorem putR_ar (S : SV) (i : Nat) (name : ByteArray) (data : List Int) (j : Nat) (h : j ≠ i) : (putR S i name data).1.ar j = S.ar j := by
  unfold putR
  split
  · dsimp only
    rw [putS_eq, setE_ar, if_neg h]
    rfl
  · rfl
theorem delR_ar (S : SV) (i : Nat) (name : ByteArray) (j : Nat) (h : j ≠ i) : (delR S i name).1.ar j = S.ar j := by
  unfold delR
  rcases oldS (S.ar i) name with _ | ⟨k, e⟩
  · rfl
  · show (delS S i k e).ar j = _
    rw [delS_eq, setE_ar, if_neg h]
    rfl
theorem doS_ar (S : SV) (a : AC) (most : Int) (j : Nat) (h : j ≠ a.t0) : (doS S a most).1.ar j = S.ar j := by
  unfold doS
  split
  · exact putR_ar _ _ _ _ _ h
  · exact delR_ar _ _ _ _ h
/-- an area behind a Put, a Delete -/
def putA (a : AR) (i : Nat) (name : ByteArray) (data : List Int) : AR := if roomS a data.length then { a with ents := oldE (oldS a name) a.ents ++ [newE a ((i : Int) + 1) name (verN (oldS a name)) data] } else a
def delA (a : AR) (name : ByteArray) : AR := match oldS a name with | none => a | some (k, _) => { a with ents := a.ents.eraseIdx k }
theorem putR_at (S : SV) (i : Nat) (name : ByteArray) (data : List Int) : (putR S i name data).1.ar i = putA (S.ar i) i name data ∧ (putR S i name data).2 = if roomS (S.ar i) data.length then 0 else 112 := by
  unfold putR putA
  cases h : roomS (S.ar i) data.length
  · exact ⟨rfl, rfl⟩
  · simp only [if_true]
    rw [putS_eq, setE_ar, if_pos rfl]
    exact ⟨rfl, trivial⟩
theorem delR_at (S : SV) (i : Nat) (name : ByteArray) : (delR S i name).1.ar i = delA (S.ar i) name ∧ (delR S i name).2 = if (oldS (S.ar i) name).isSome then 0 else 111 := by
  unfold delR delA
  rcases oldS (S.ar i) name with _ | ⟨k, e⟩
  · exact ⟨rfl, rfl⟩
  · dsimp only
    rw [delS_eq, setE_ar, if_pos rfl]
    exact ⟨rfl, rfl⟩
theorem doS_same {S T : SV} {a : AC} {most : Int} (h : S.ar a.t0 = T.ar a.t0) : (doS S a most).1.ar a.t0 = (doS T a most).1.ar a.t0 ∧ (doS S a most).2 = (doS T a most).2 := by
  unfold doS
  cases a.puts
  · simp only [Bool.false_eq_true, if_false]
    rw [(delR_at S _ _).1, (delR_at T _ _).1, (delR_at S _ _).2, (delR_at T _ _).2, h]
    exact ⟨rfl, rfl⟩
  · simp only [if_true]
    rw [(putR_at S _ _ _).1, (putR_at T _ _ _).1, (putR_at S _ _ _).2, (putR_at T _ _ _).2, h]
    exact ⟨rfl, rfl⟩
theorem doS_code (S : SV) (a : AC) (most : Int) : (doS S a most).2 = 0 ∨ (doS S a most).2 = 112 ∨ (doS S a most).2 = 111 := by
  unfold doS
  split
  · rw [(putR_at _ _ _ _).2]
    split
    · exact .inl rfl
    · exact .inr (.inl rfl)
  · rw [(delR_at _ _ _).2]
    split
    · exact .inl rfl
    · exact .inr (.inr rfl)
theorem doD_ne (S : SV) (D : Nat → ByteArray → List Int) (a : AC) (most : Int) (j : Nat) (h : j ≠ a.t0) : doD S D a most j = D j := by
  unfold doD
  split
  · unfold putD; rw [if_neg h]
  · rfl
theorem doD_same {S T : SV} {D E : Nat → ByteArray → List Int} {a : AC} {most : Int} (h : S.ar a.t0 = T.ar a.t0) (hd : D a.t0 = E a.t0) : doD S D a most a.t0 = doD T E a most a.t0 := by
  unfold doD
  rw [h]
  split
  · unfold putD; rw [if_pos rfl, if_pos rfl, hd]
  · exact hd
theorem GN.act {S : SV} (h : GN S) (a : AC) (most : Int) : GN (doS S a most).1 := by
  intro t ht e he
  by_cases hj : t = a.t0
  · subst hj
    unfold doS at he
    cases hp : a.puts
    · rw [hp, if_neg (by decide), (delR_at _ _ _).1] at he
      unfold delA at he
      rcases ho : oldS (S.ar a.t0) a.name with _ | ⟨k, e'⟩
      · rw [ho] at he; exact h _ ht e he
      · rw [ho] at he
        exact h _ ht e (List.mem_of_mem_eraseIdx he)
    · rw [hp, if_pos rfl, (putR_at _ _ _ _).1] at he
      unfold putA at he
      split at he
      · dsimp only at he
        rcases List.mem_append.1 he with he | he
        · refine h _ ht e ?_
          generalize oldS (S.ar a.t0) a.name = od at he
          rcases od with _ | ⟨k, e'⟩
          · exact he
          · exact List.mem_of_mem_eraseIdx he
        · simp at he
          subst he
          exact ⟨a.n0, a.n0_lt.1, rfl⟩
      · exact h _ ht e he
  · rw [doS_ar S a most t hj] at he
    exact h t ht e he
theorem GN.start (b : BS) : GN (S0 b) := fun t _ e he => by cases he
theorem cellV_same {S T : SV} {D E : Nat → ByteArray → List Int} {t : Nat} (h : S.ar t = T.ar t) (hd : D t = E t) (n : Nat) : cellV S D t n = cellV T E t n := by
  unfold cellV hasS
  rw [h, hd]
theorem vwP_at (S : SV) (D : Nat → ByteArray → List Int) (k : Nat) : ∀ (t n : Nat), n < 6 → t < k → (vwP S D k)[6 * t + n]? = some (cellV S D t n) := by
  induction k with
  | zero => intro t n _ h; omega
  | succ k ih =>
    intro t n hn ht
    rw [vwP_succ]
    by_cases h : t < k
    · rw [List.getElem?_append_left (by rw [vwP_len]; omega)]
      exact ih t n hn h
    · obtain rfl : t = k := by omega
      rw [List.getElem?_append_right (by rw [vwP_len]; omega), vwP_len, show 6 * t + n - 6 * t = n by omega]
      unfold vwR
      rw [List.getElem?_map, List.getElem?_range hn]
      rfl
/-- an act of another tenant's number -/
def AC.of (a : AC) (t : Int) : AC := ⟨a.kind, t, a.nm, a.bytes⟩
theorem AC.of_t0 (a : AC) {t : Nat} (h : t < 8) : (AC.of a (t : Int)).t0 = t := by
  unfold AC.t0 AC.of pk
  dsimp only
  rw [if_neg (by omega)]
  have : (t : Int) % 8 = t := Int.emod_eq_of_lt (by omega) (by omega)
  rw [this]
  omega
theorem AC.of_wf {a : AC} (h : a.wf) {t : Nat} (ht : t < 8) : (AC.of a (t : Int)).wf := ⟨h.k, ⟨by show _ ≤ (t : Int); omega, by show (t : Int) ≤ _; omega⟩, h.n, h.b⟩
/-- what holds between the two -/
structure ApR (S T : SV) (D E : Nat → ByteArray → List Int) (t : Nat) : Prop where
  ar : S.ar t = T.ar t
  d : D t = E t
theorem ApR.mine {S T : SV} {D E : Nat → ByteArray → List Int} (a : AC) (h : ApR S T D E a.t0) (most : Int) : ApR (doS S a most).1 (doS T a most).1 (doD S D a most) (doD T E a most) a.t0 :=
  ⟨(doS_same h.ar).1, doD_same h.ar h.d⟩
theorem ApR.other {S T : SV} {D E : Nat → ByteArray → List Int} {t : Nat} (h : ApR S T D E t) (a : AC) (most : Int) (ha : t ≠ a.t0) : ApR (doS S a most).1 T (doD S D a most) E t :=
  ⟨by rw [doS_ar S a most t ha]; exact h.ar, by rw [doD_ne S D a most t ha]; exact h.d⟩
end Go.Proofs.YtmofiicjaldmiaaGreatDoor.SwY
namespace Go.Proofs.YtmofiicjaldmiaaGreatDoor.SwZ
open Go.RowKit Go.Shelf Go.Proofs.YtmofiicjaldmiaaGreatDoorW.PrintWords Go.Proofs.YtmofiicjaldmiaaGreatDoorW.PrintLast Go.Proofs.YtmofiicjaldmiaaGreatDoor.SvA Go.Proofs.YtmofiicjaldmiaaGreatDoor.SvB Go.Proofs.YtmofiicjaldmiaaGreatDoor.SvC Go.Proofs.YtmofiicjaldmiaaGreatDoor.SvD Go.Proofs.YtmofiicjaldmiaaGreatDoor.SvE Go.Proofs.YtmofiicjaldmiaaGreatDoor.SvF Go.Proofs.YtmofiicjaldmiaaGreatDoor.SvG Go.Proofs.YtmofiicjaldmiaaGreatDoor.SvH Go.Proofs.YtmofiicjaldmiaaGreatDoor.SvI Go.Proofs.YtmofiicjaldmiaaGreatDoor.SvJ Go.Proofs.YtmofiicjaldmiaaGreatDoor.SvK Go.Proofs.YtmofiicjaldmiaaGreatDoor.SvL Go.Proofs.YtmofiicjaldmiaaGreatDoor.SvM Go.Proofs.YtmofiicjaldmiaaGreatDoor.SvN Go.Proofs.YtmofiicjaldmiaaGreatDoor.SvO Go.Proofs.YtmofiicjaldmiaaGreatDoor.SvP Go.Proofs.YtmofiicjaldmiaaGreatDoor.SvQ Go.Proofs.YtmofiicjaldmiaaGreatDoor.SvR Go.Proofs.YtmofiicjaldmiaaGreatDoor.SvS Go.Proofs.YtmofiicjaldmiaaGreatDoor.SvT Go.Proofs.YtmofiicjaldmiaaGreatDoor.SvU Go.Proofs.YtmofiicjaldmiaaGreatDoor.SvV Go.Proofs.YtmofiicjaldmiaaGreatDoor.SvW Go.Proofs.YtmofiicjaldmiaaGreatDoor.SvX Go.Proofs.YtmofiicjaldmiaaGreatDoor.SvY Go.Proofs.YtmofiicjaldmiaaGreatDoor.SvZ Go.Proofs.YtmofiicjaldmiaaGreatDoor.SwA Go.Proofs.YtmofiicjaldmiaaGreatDoor.SwB Go.Proofs.YtmofiicjaldmiaaGreatDoor.SwC Go.Proofs.YtmofiicjaldmiaaGreatDoor.SwD Go.Proofs.YtmofiicjaldmiaaGreatDoor.SwE Go.Proofs.YtmofiicjaldmiaaGreatDoor.SwF Go.Proofs.YtmofiicjaldmiaaGreatDoor.SwG Go.Proofs.YtmofiicjaldmiaaGreatDoor.SwI Go.Proofs.YtmofiicjaldmiaaGreatDoor.SwJ Go.Proofs.YtmofiicjaldmiaaGreatDoor.SwK Go.Proofs.YtmofiicjaldmiaaGreatDoor.SwH Go.Proofs.YtmofiicjaldmiaaGreatDoor.SwL Go.Proofs.YtmofiicjaldmiaaGreatDoor.SwM Go.Proofs.YtmofiicjaldmiaaGreatDoor.SwN Go.Proofs.YtmofiicjaldmiaaGreatDoor.SwO Go.Proofs.YtmofiicjaldmiaaGreatDoor.SwP Go.Proofs.YtmofiicjaldmiaaGreatDoor.SwQ Go.Proofs.YtmofiicjaldmiaaGreatDoor.SwR Go.Proofs.YtmofiicjaldmiaaGreatDoor.SwS Go.Proofs.YtmofiicjaldmiaaGreatDoor.SwT Go.Proofs.YtmofiicjaldmiaaGreatDoor.SwX Go.Proofs.YtmofiicjaldmiaaGreatDoor.SwY
set_option linter.unusedVariables false
set_option linter.unusedSimpArgs false
open Go.Lib
abbrev tsA : Nat → Prop := fun q => k20 100 q ∨ k20 200 q
/-- how the law stands at the head of a round -/
def ApSt (w : World) (N g gs : Nat) (ga : Nat → Nat) (g2 gs2 : Nat) (ga2 : Nat → Nat) (ti k : Nat) (wr : World) : Prop := ∃ S T own D E, SvMem wr own 100 g gs ga S ∧ SvMem wr own 200 g2 gs2 ga2 T ∧ GS S N (2 * k) ∧ GS T N (2 * k) ∧ CS S D ∧ CS T E ∧ GN S ∧ GN T ∧ ApR S T D E ti ∧ Kp tsA w (fun _ => 0) wr own
/-- a list of strings in memory -/
def SsAt (w : World) (A : Option Addr) (l : List ByteArray) : Prop := ∀ (j : Nat) (x : ByteArray), l[j]? = some x → ∃ zb, A = some ⟨zb, 0, none⟩ ∧ w.cell? ⟨zb, j, none⟩ = some (.string x)
theorem SsAt.below {w w' : World} {A : Option Addr} {l : List ByteArray} (h : SsAt w A l) (hb : Below w.heap.size w w') : SsAt w' A l := fun j x hx => by
  obtain ⟨zb, h1, h2⟩ := h j x hx
  exact ⟨zb, h1, cellOf hb h2⟩
theorem ss_of {w : World} {o : Nat → Nat} {t : Nat} {z : Sl} {l : List ByteArray} (h : Ow strK 9 w o t z l) : SsAt w z.A l := fun j x hx => by
  have hn := (ow_len h).1
  have hj := (List.getElem?_eq_some_iff.1 hx).1
  obtain ⟨zb, hz⟩ := ow_head h (by omega)
  obtain ⟨A, n, c⟩ := z
  injection hz with hA _ _
  subst hA
  obtain ⟨c1, _, _⟩ := ow_cell (enc := Value.string) (h1 := fun _ => rfl) h j x hx
  exact ⟨zb, rfl, c1⟩
def acC (a : AC) : Array Value := #[.int .i64 a.kind, .int .i64 a.ten, .int .i64 a.nm, .int .i64 a.bytes]
/-- how it stands within a round -/
structure ApRd (w : World) (g gs : Nat) (ga : Nat → Nat) (g2 gs2 : Nat) (ga2 : Nat → Nat) (q : Nat) (a : AC) (S T : SV) (wz : World) (oz : Nat → Nat) : Prop where
  m : SvMem wz oz 100 g gs ga S
  m2 : SvMem wz oz 200 g2 gs2 ga2 T
  bk : Blk wz q #[.int .i64 a.kind, .int .i64 a.ten, .int .i64 a.nm, .int .i64 a.bytes] 33
  oq : oz q = 0
  kp : Kp tsA w (fun _ => 0) wz oz
theorem ApRd.below {w : World} {g gs : Nat} {ga : Nat → Nat} {g2 gs2 : Nat} {ga2 : Nat → Nat} {q : Nat} {a : AC} {S T : SV} {wz W : World} {oz : Nat → Nat} (H : ApRd w g gs ga g2 gs2 ga2 q a S T wz oz) (h : Below wz.heap.size wz W) : ApRd w g gs ga g2 gs2 ga2 q a S T W (tagged wz oz 0) := by
  obtain ⟨b1, b2⟩ := H.bk.keep (Kp.below (ts := fun _ => False) (own := oz) h 0) (fun q => q)
  exact ⟨H.m.below h, H.m2.below h, b1, b2.trans H.oq, H.kp.trans (Kp.below h 0)⟩
theorem ApRd.s1 {w : World} {g gs : Nat} {ga : Nat → Nat} {g2 gs2 : Nat} {ga2 : Nat → Nat} {q : Nat} {a : AC} {S S' T : SV} {wz W : World} {oz o : Nat → Nat} (H : ApRd w g gs ga g2 gs2 ga2 q a S T wz oz) (h : SvMem W o 100 g gs ga S') (k : Kp (k20 100) wz oz W o) : ApRd w g gs ga g2 gs2 ga2 q a S' T W o := by
  obtain ⟨b1, b2⟩ := H.bk.keep k (by rw [H.oq]; intro h; exact absurd h.1 (by omega))
  exact ⟨h, SvMem.keep H.m2 k (by intro h; exact absurd h.1 (by omega)) (fun q h1 h2 h => absurd h.2 (by omega)), b1, b2.trans H.oq, H.kp.trans (k.mono (fun q h => .inl h))⟩
theorem ApRd.s2 {w : World} {g gs : Nat} {ga : Nat → Nat} {g2 gs2 : Nat} {ga2 : Nat → Nat} {q : Nat} {a : AC} {S T T' : SV} {wz W : World} {oz o : Nat → Nat} (H : ApRd w g gs ga g2 gs2 ga2 q a S T wz oz) (h : SvMem W o 200 g2 gs2 ga2 T') (k : Kp (k20 200) wz oz W o) : ApRd w g gs ga g2 gs2 ga2 q a S T' W o := by
  obtain ⟨b1, b2⟩ := H.bk.keep k (by rw [H.oq]; intro h; exact absurd h.1 (by omega))
  exact ⟨SvMem.keep H.m k (by intro h; exact absurd h.1 (by omega)) (fun q h1 h2 h => absurd h.1 (by omega)), h, b1, b2.trans H.oq, H.kp.trans (k.mono (fun q h => .inr h))⟩
theorem ApRd.cells {w : World} {g gs : Nat} {ga : Nat → Nat} {g2 gs2 : Nat} {ga2 : Nat → Nat} {q : Nat} {a : AC} {S T : SV} {wz : World} {oz : Nat → Nat} (H : ApRd w g gs ga g2 gs2 ga2 q a S T wz oz) : wz.cell? ⟨q, 0, none⟩ = some (.int .i64 a.kind) ∧ wz.cell? ⟨q, 1, none⟩ = some (.int .i64 a.ten) ∧ wz.cell? ⟨q, 2, none⟩ = some (.int .i64 a.nm) ∧ wz.cell? ⟨q, 3, none⟩ = some (.int .i64 a.bytes) :=
  ⟨Blk.cell H.bk rfl, Blk.cell H.bk rfl, Blk.cell H.bk rfl, Blk.cell H.bk rfl⟩
theorem ApRd.bel {w : World} {g gs : Nat} {ga : Nat → Nat} {g2 gs2 : Nat} {ga2 : Nat → Nat} {q : Nat} {a : AC} {S T : SV} {wz : World} {oz : Nat → Nat} (H : ApRd w g gs ga g2 gs2 ga2 q a S T wz oz) : Below w.heap.size w wz := kp_below H.kp (by intro h; rcases h with h | h <;> exact absurd h.1 (by omega))
set_option maxRecDepth 100000 in
set_option maxHeartbeats 4000000 in
theorem apart_walk (a0 : Int) (A : Option Addr) (c : Nat) (xs : List AC) (B : Option Addr) (d : Nat) (ys : List AC) (a3 : Int) (h0 : i64s a0) (h3 : i64s a3) (w : World) (hxs : AcAt w A xs) (hc : xs.length ≤ c) (hl : xs.length ≤ 9223372036854775807) (hys : AcAt w B ys) (hd : ys.length ≤ d) (hm : ys.length ≤ 9223372036854775807) :
    Calls Tryz.prog 3 #[.int .i64 a0, .slice A xs.length c, .slice B ys.length d, .int .i64 a3] w fun e w' => e = .returned (.bool true) ∧ Below w.heap.size w w' := by
  obtain ⟨p, hp⟩ : ∃ p : Nat, pk a0 200 = (p : Int) := ⟨(pk a0 200).toNat, by have := pk_bd a0 200 (by omega); omega⟩
  have hpb : p < 200 := by have := pk_bd a0 200 (by omega); omega
  have HP1 := Lib.hid (fun W => pick_ok a0 200 W h0 (by omega) (by omega))
  rw [hp] at HP1
  clear hp
  obtain ⟨ti, hti⟩ : ∃ i : Nat, pk a3 8 = (i : Int) := ⟨(pk a3 8).toNat, by have := pk_bd a3 8 (by omega); omega⟩
  have hti8 : ti < 8 := by have := pk_bd a3 8 (by omega); omega
  have HP2 := Lib.hid (fun W => pick_ok a3 8 W h3 (by omega) (by omega))
  rw [hti] at HP2
  clear hti
  have hnew : ∀ W : World, Calls Tryz.prog 16 #[.int .i64 (80 + (p : Int))] W (NewP W (List.replicate (512 * (80 + p)) 0)) := fun W => by
    have := new_ok W (80 + p) (by omega) (by omega)
    rwa [show ((80 + p : Nat) : Int) = 80 + (p : Int) by omega] at this
  have hNb : 80 ≤ 80 + p ∧ 80 + p < 280 := by omega
  generalize hN : 80 + p = N at *
  have HAW := Lib.hid (fun W => awake_ok W)
  have HNEW := Lib.hid hnew
  have HN := Lib.hid hN
  clear hnew hN
  have HOP := Lib.hid (fun (t : Nat) (ht : t ≠ 0) (W : World) (gs : Nat) (own : Nat → Nat) (H : StA W own t gs (BS.fresh (List.replicate (512 * N) 0))) => new_open W N (by omega) (by omega) gs own t ht H)
  obtain ⟨g0, c0⟩ := GS.start N (by omega) (fun _ _ => [])
  have n0 := GN.start (BS.fresh (List.replicate (512 * N) 0))
  generalize S0 (BS.fresh (List.replicate (512 * N) 0)) = s0 at *
  have HINI := Lib.hid (And.intro g0 (And.intro c0 n0))
  clear g0 c0 n0
  have HXS := Lib.hid hxs
  have HYS := Lib.hid hys
  clear hxs hys
  have tok1 : True := trivial
  have tok2 : True := trivial
  go_enter Tryz.func3, Tryz.ntmps3
  go_upto_region 10 with (first
    | (go_at_call 14; (with_reducible refine (HAW.out _).mono ?_); rintro e w0 ⟨rfl, hb0⟩; have HB0 := Lib.hid hb0; clear hb0)
    | (go_at_call 15; (with_reducible refine (HP1.out _).mono ?_); rintro e w' ⟨rfl, rfl⟩)
    | (go_at_call 15; (with_reducible refine (HP2.out _).mono ?_); rintro e w' ⟨rfl, rfl⟩)
    | (go_at_call 16; have _t := tok1; refine (HNEW.out _).mono ?_; clear tok1; rintro e w1 ⟨gs, rfl, hgs, hb1, hN⟩; obtain ⟨o1, st1, k1⟩ := hN (fun _ => 0) 100; have K1 := Lib.hid (And.intro st1 k1); clear k1 st1 hN hgs hb1)
    | (go_at_call 16; refine (HNEW.out _).mono ?_; rintro e w2 ⟨gs2, rfl, hgs, hb1, hN⟩; obtain ⟨o2, st2, k2⟩ := hN o1 200; have K2 := Lib.hid (And.intro st2 (And.intro k2 (StA.keep K1.out.1 k2 (fun q => q) (fun q => q) (fun q => q) (fun q => q)))); clear k2 st2 hN hgs hb1)
    | (go_at_call 17; have _t := tok2; refine Calls.mono (HOP.out 100 (by decide) _ gs o2 K2.out.2.2) ?_; clear tok2; rintro e w3 ⟨g, o3, ga, rfl, hg2x, M3, k3x⟩; have K3 := Lib.hid (And.intro M3 (And.intro k3x (StA.keep K2.out.1 k3x (by intro h; exact absurd h.1 (by omega)) (by intro h; exact absurd h.2 (by omega)) (by intro h; exact absurd h.2 (by omega)) (by intro h; exact absurd h.2 (by omega))))); clear M3 k3x hg2x)
    | (go_at_call 17; refine Calls.mono (HOP.out 200 (by decide) _ gs2 o3 K3.out.2.2) ?_; rintro e w4 ⟨g2, o4, ga2, rfl, hg2x, M4, k4x⟩; have K4 := Lib.hid (And.intro M4 (And.intro k4x (SvMem.keep K3.out.1 k4x (by intro h; exact absurd h.1 (by omega)) (fun q h1 h2 h => absurd h.1 (by omega))))); clear M4 k4x hg2x))
  have hk4 : Kp tsA w (fun _ => 0) w4 o4 := (((((kp_zero HB0.out).trans (K1.out.2.mono (fun _ h => h.elim))).trans (K2.out.2.1.mono (fun _ h => h.elim))).trans (K3.out.2.1.mono (fun q h => .inl h))).trans (K4.out.2.1.mono (fun q h => .inr h)))
  have HST := Lib.hid (show ApSt w N g gs ga g2 gs2 ga2 ti 0 w4 from ⟨s0, s0, o4, _, _, K4.out.2.2, K4.out.1, HINI.out.1, HINI.out.1, HINI.out.2.1, HINI.out.2.1, HINI.out.2.2, HINI.out.2.2, ⟨rfl, rfl⟩, hk4⟩)
  clear hk4
  rw [show (1 : Int) + (ti : Int) = (ti : Int) + 1 from Int.add_comm _ _]
  go_wp2_with fail
  go_loopw [20, 21, 22, 23, 24, 25, 26, 27] (fun v _ _ _ _ _ _ _ wr => ∃ k : Nat, k ≤ 60 ∧ k ≤ xs.length ∧ v = .int .i64 (k : Int) ∧ ApSt w N g gs ga g2 gs2 ga2 ti k wr) (fun v _ _ _ _ _ _ _ _ => 60 - (intOf v).toNat)
  case atStart => exact ⟨0, by omega, by omega, rfl, HST.out⟩
  case round =>
    obtain ⟨k, hk60, hk, rfl, S, T, own', D, E, M, M2, G, G2, C, C2, N1, N2, R, kp⟩ := hrel
    have hb := kp_below kp (by intro h; rcases h with h | h <;> exact absurd h.1 (by omega))
    by_cases hc1 : k < xs.length ∧ k < 60
    · obtain ⟨hc1, hc2⟩ := hc1
      have dl1 : decide ((k : Int) < (xs.length : Int)) = true := by simp; omega
      have dl2 : decide ((k : Int) < 60) = true := by simp; omega
      have hlt' : (k : Int) < (xs.length : Int) := by omega
      obtain ⟨x, hx⟩ : ∃ x, xs[k]? = some x := ⟨_, List.getElem?_eq_getElem hc1⟩
      obtain ⟨hw, ad, hA, c0, c1, c2, c3⟩ := (HXS.out.below hb) k x hx
      subst hA
      clear hx
      go_upto_region 15 with (fail)
      have hta := AC.of_t0 x hti8
      have hw1 := AC.of_wf hw hti8
      have R0 : ApRd w g gs ga g2 gs2 ga2 wr.heap.size (AC.of x (ti : Int)) S T (wr.alloc (.cells #[.int .i64 x.kind, .int .i64 (ti : Int), .int .i64 x.nm, .int .i64 x.bytes] 33)) (tagged wr own' 0) := ⟨M.below (ba _), M2.below (ba _), blkNew rfl, tagged_new (Nat.le_refl _), kp.trans (Kp.below (ba _) 0)⟩
      generalize hv2 : wr.alloc (.cells #[.int .i64 x.kind, .int .i64 (ti : Int), .int .i64 x.nm, .int .i64 x.bytes] 33) = v2 at *
      generalize tagged wr own' 0 = own2 at *
      generalize wr.heap.size = q at *
      have HF := Lib.hid (show ∀ S T wz oz, ApRd w g gs ga g2 gs2 ga2 q (AC.of x (ti : Int)) S T wz oz → wz.cell? ⟨q, 0, none⟩ = some (.int .i64 x.kind) ∧ wz.cell? ⟨q, 1, none⟩ = some (.int .i64 (ti : Int)) ∧ wz.cell? ⟨q, 2, none⟩ = some (.int .i64 x.nm) ∧ wz.cell? ⟨q, 3, none⟩ = some (.int .i64 x.bytes) from fun S T wz oz h => h.cells)
      have HD1 := Lib.hid (show ∀ W o, SvMem W o 100 g gs ga S → Calls Tryz.prog 18 #[.agg #[.int .i64 x.kind, .int .i64 (ti : Int), .int .i64 x.nm, .int .i64 x.bytes], pt g, .int .i64 3000] W (ActR W o 100 g gs ga (doS S (AC.of x (ti : Int)) 3000)) from fun W o H => does_at W o 100 g gs ga S H (by decide) G (by omega) W (Below.refl _ _) (AC.of x (ti : Int)) hw1 3000 (by omega) (by omega))
      have HD2 := Lib.hid (show ∀ W o, SvMem W o 200 g2 gs2 ga2 T → Calls Tryz.prog 18 #[.agg #[.int .i64 x.kind, .int .i64 (ti : Int), .int .i64 x.nm, .int .i64 x.bytes], pt g2, .int .i64 3000] W (ActR W o 200 g2 gs2 ga2 (doS T (AC.of x (ti : Int)) 3000)) from fun W o H => does_at W o 200 g2 gs2 ga2 T H (by decide) G2 (by omega) W (Below.refl _ _) (AC.of x (ti : Int)) hw1 3000 (by omega) (by omega))
      obtain ⟨Ga, Ca⟩ := doS_all G C (AC.of x (ti : Int)) 3000 (by omega) (by omega) (by omega)
      obtain ⟨Gb, Cb⟩ := doS_all G2 C2 (AC.of x (ti : Int)) 3000 (by omega) (by omega) (by omega)
      have Na := GN.act N1 (AC.of x (ti : Int)) 3000
      have Nb := GN.act N2 (AC.of x (ti : Int)) 3000
      have Ra := ApR.mine (AC.of x (ti : Int)) (by rw [hta]; exact R) 3000
      rw [hta] at Ra
      have hr12 := (doS_same (S := S) (T := T) (a := AC.of x (ti : Int)) (most := 3000) (by rw [hta]; exact R.ar)).2
      have hcode := doS_code S (AC.of x (ti : Int)) 3000
      generalize doD S D (AC.of x (ti : Int)) 3000 = Da at *
      generalize doD T E (AC.of x (ti : Int)) 3000 = Ea at *
      generalize doS S (AC.of x (ti : Int)) 3000 = Sa at *
      generalize doS T (AC.of x (ti : Int)) 3000 = Ta at *
      obtain ⟨r, hr⟩ : ∃ r, Sa.2 = r := ⟨_, rfl⟩
      rw [hr] at hr12 hcode
      have HRS := Lib.hid hr
      have HRT := Lib.hid hr12.symm
      obtain ⟨y0, y1, y2, y3⟩ := HF.out _ _ _ _ R0
      have HR0 := Lib.hid R0
      clear M M2 G G2 C C2 N1 N2 R kp R0 hr hr12 hv2 hw hb c0 c1 c2 c3 hta hw1
      have tok3 : True := trivial
      go_upto_region 16 with (go_at_call 18; (with_reducible refine Calls.mono (HD1.out v2 own2 HR0.out.m) ?_); intro e w5 h5; obtain ⟨rfl, o5, M5, k5⟩ := ActR.ok h5 HRS.out; have H5 := Lib.hid (ApRd.s1 HR0.out M5 k5); obtain ⟨y0, y1, y2, y3⟩ := HF.out _ _ _ _ H5.out; clear h5 M5 k5)
      by_cases hy : k < ys.length
      · have dy : decide ((k : Int) < (ys.length : Int)) = true := by simp; omega
        have hyl : (k : Int) < (ys.length : Int) := by omega
        obtain ⟨y, hyk⟩ : ∃ y, ys[k]? = some y := ⟨_, List.getElem?_eq_getElem hy⟩
        obtain ⟨hyw, ad2, hA2, e0, e1, e2, e3⟩ := (HYS.out.below H5.out.bel) k y hyk
        subst hA2
        have HTY := Lib.hid (fun W => tenant_ok y hyw W)
        have hye : y.enc = .agg #[.int .i64 y.kind, .int .i64 y.ten, .int .i64 y.nm, .int .i64 y.bytes] := rfl
        rw [hye] at HTY
        by_cases hne : y.t0 = ti
        · have hq : (((y.t0 : Int) + 1) != (ti : Int) + 1) = false := by rw [hne]; simp
          generalize y.t0 = yt at *
          clear hne hye hyk
          go_upto_region 18 with (go_at_call 19; (with_reducible refine (HTY.out _).mono ?_); rintro e w6 ⟨rfl, hb6⟩; have HZ := Lib.hid (H5.out.below hb6); clear hb6)
          obtain ⟨y0, y1, y2, y3⟩ := HF.out _ _ _ _ HZ.out
          have HU1 := Lib.hid (fun (W : World) (o : Nat → Nat) (H : SvMem W o 100 g gs ga Sa.1) => used_at W o 100 g gs ga Sa.1 H Ga W (Below.refl _ _) ti hti8)
          have HU2 := Lib.hid (fun (W : World) (o : Nat → Nat) (H : SvMem W o 200 g2 gs2 ga2 Ta.1) => used_at W o 200 g2 gs2 ga2 Ta.1 H Gb W (Below.refl _ _) ti hti8)
          rw [← (Ra).ar] at HU2
          generalize usedS ((Sa.1).ar ti).ents = us at *
          have hus : ((us : Int) != (us : Int)) = false := by simp
          have HNX := Lib.hid (fun (W : World) (o : Nat → Nat) (H : ApRd w g gs ga g2 gs2 ga2 q (AC.of x (ti : Int)) Sa.1 Ta.1 W o) => (show ApSt w N g gs ga g2 gs2 ga2 ti (k + 1) W from ⟨Sa.1, Ta.1, o, _, _, H.m, H.m2, GS.mono Ga (by omega), GS.mono Gb (by omega), Ca, Cb, Na, Nb, Ra, H.kp⟩))
          rcases hcode with rfl | rfl | rfl
          all_goals
            go_wp2_with (first
              | (go_at_call 18; (with_reducible refine Calls.mono (HD2.out w6 _ HZ.out.m2) ?_); intro e w8 h8; obtain ⟨rfl, o8, M8, k8⟩ := ActR.ok h8 HRT.out; have H8 := Lib.hid (ApRd.s2 HZ.out M8 k8); clear h8 M8 k8)
              | (go_at_call 20; have _t := tok3; (with_reducible refine Calls.mono (HU1.out w8 _ H8.out.m) ?_); clear tok3; rintro e w9 ⟨rfl, hb9⟩; have H9 := Lib.hid (H8.out.below hb9); clear hb9)
              | (go_at_call 20; (with_reducible refine Calls.mono (HU2.out w9 _ H9.out.m2) ?_); rintro e w10 ⟨rfl, hb10⟩; have H10 := Lib.hid (H9.out.below hb10); clear hb10))
            exact ⟨⟨k + 1, by omega, by omega, by go_num, HNX.out w10 _ H10.out⟩, by simp [intOf]; omega⟩
        · have hq : (((y.t0 : Int) + 1) != (ti : Int) + 1) = true := by simp; omega
          have HD3 := Lib.hid (show ∀ W o, SvMem W o 100 g gs ga Sa.1 → Calls Tryz.prog 18 #[.agg #[.int .i64 y.kind, .int .i64 y.ten, .int .i64 y.nm, .int .i64 y.bytes], pt g, .int .i64 3000] W (ActR W o 100 g gs ga (doS Sa.1 y 3000)) from fun W o H => does_at W o 100 g gs ga Sa.1 H (by decide) Ga (by omega) W (Below.refl _ _) y hyw 3000 (by omega) (by omega))
          obtain ⟨Gc, Cc⟩ := doS_all Ga Ca y 3000 (by omega) (by omega) (by omega)
          have Nc := GN.act Na y 3000
          have Rc := ApR.other Ra y 3000 (fun h => hne h.symm)
          generalize doD Sa.1 Da y 3000 = Dc at *
          generalize doS Sa.1 y 3000 = Sc at *
          generalize y.t0 = yt at *
          obtain ⟨r2, hr2⟩ : ∃ r2, Sc.2 = r2 := ⟨_, rfl⟩
          have HR2 := Lib.hid hr2
          clear hne hye hyk hr2
          go_upto_region 18 with (first
            | (go_at_call 19; (with_reducible refine (HTY.out _).mono ?_); rintro e w6 ⟨rfl, hb6⟩; have H6 := Lib.hid (H5.out.below hb6); have e0 := cellOf hb6 e0; have e1 := cellOf hb6 e1; have e2 := cellOf hb6 e2; have e3 := cellOf hb6 e3; clear hb6)
            | (go_at_call 18; (with_reducible refine Calls.mono (HD3.out w6 _ H6.out.m) ?_); intro e w7 h7; obtain ⟨rfl, o7, M7, k7⟩ := ActR.ok h7 HR2.out; have HZ := Lib.hid (ApRd.s1 H6.out M7 k7); clear h7 M7 k7))
          obtain ⟨y0, y1, y2, y3⟩ := HF.out _ _ _ _ HZ.out
          have HU1 := Lib.hid (fun (W : World) (o : Nat → Nat) (H : SvMem W o 100 g gs ga Sc.1) => used_at W o 100 g gs ga Sc.1 H Gc W (Below.refl _ _) ti hti8)
          have HU2 := Lib.hid (fun (W : World) (o : Nat → Nat) (H : SvMem W o 200 g2 gs2 ga2 Ta.1) => used_at W o 200 g2 gs2 ga2 Ta.1 H Gb W (Below.refl _ _) ti hti8)
          rw [← (Rc).ar] at HU2
          generalize usedS ((Sc.1).ar ti).ents = us at *
          have hus : ((us : Int) != (us : Int)) = false := by simp
          have HNX := Lib.hid (fun (W : World) (o : Nat → Nat) (H : ApRd w g gs ga g2 gs2 ga2 q (AC.of x (ti : Int)) Sc.1 Ta.1 W o) => (show ApSt w N g gs ga g2 gs2 ga2 ti (k + 1) W from ⟨Sc.1, Ta.1, o, _, _, H.m, H.m2, GS.mono Gc (by omega), GS.mono Gb (by omega), Cc, Cb, Nc, Nb, Rc, H.kp⟩))
          rcases hcode with rfl | rfl | rfl
          all_goals
            go_wp2_with (first
              | (go_at_call 18; (with_reducible refine Calls.mono (HD2.out w7 _ HZ.out.m2) ?_); intro e w8 h8; obtain ⟨rfl, o8, M8, k8⟩ := ActR.ok h8 HRT.out; have H8 := Lib.hid (ApRd.s2 HZ.out M8 k8); clear h8 M8 k8)
              | (go_at_call 20; have _t := tok3; (with_reducible refine Calls.mono (HU1.out w8 _ H8.out.m) ?_); clear tok3; rintro e w9 ⟨rfl, hb9⟩; have H9 := Lib.hid (H8.out.below hb9); clear hb9)
              | (go_at_call 20; (with_reducible refine Calls.mono (HU2.out w9 _ H9.out.m2) ?_); rintro e w10 ⟨rfl, hb10⟩; have H10 := Lib.hid (H9.out.below hb10); clear hb10))
            exact ⟨⟨k + 1, by omega, by omega, by go_num, HNX.out w10 _ H10.out⟩, by simp [intOf]; omega⟩
      · have dy : decide ((k : Int) < (ys.length : Int)) = false := by simp; omega
        go_upto_region 18 with (fail)
        have HZ := Lib.hid H5.out
        have HU1 := Lib.hid (fun (W : World) (o : Nat → Nat) (H : SvMem W o 100 g gs ga Sa.1) => used_at W o 100 g gs ga Sa.1 H Ga W (Below.refl _ _) ti hti8)
        have HU2 := Lib.hid (fun (W : World) (o : Nat → Nat) (H : SvMem W o 200 g2 gs2 ga2 Ta.1) => used_at W o 200 g2 gs2 ga2 Ta.1 H Gb W (Below.refl _ _) ti hti8)
        rw [← (Ra).ar] at HU2
        generalize usedS ((Sa.1).ar ti).ents = us at *
        have hus : ((us : Int) != (us : Int)) = false := by simp
        have HNX := Lib.hid (fun (W : World) (o : Nat → Nat) (H : ApRd w g gs ga g2 gs2 ga2 q (AC.of x (ti : Int)) Sa.1 Ta.1 W o) => (show ApSt w N g gs ga g2 gs2 ga2 ti (k + 1) W from ⟨Sa.1, Ta.1, o, _, _, H.m, H.m2, GS.mono Ga (by omega), GS.mono Gb (by omega), Ca, Cb, Na, Nb, Ra, H.kp⟩))
        rcases hcode with rfl | rfl | rfl
        all_goals
          go_wp2_with (first
            | (go_at_call 18; (with_reducible refine Calls.mono (HD2.out w5 _ HZ.out.m2) ?_); intro e w8 h8; obtain ⟨rfl, o8, M8, k8⟩ := ActR.ok h8 HRT.out; have H8 := Lib.hid (ApRd.s2 HZ.out M8 k8); clear h8 M8 k8)
            | (go_at_call 20; have _t := tok3; (with_reducible refine Calls.mono (HU1.out w8 _ H8.out.m) ?_); clear tok3; rintro e w9 ⟨rfl, hb9⟩; have H9 := Lib.hid (H8.out.below hb9); clear hb9)
            | (go_at_call 20; (with_reducible refine Calls.mono (HU2.out w9 _ H9.out.m2) ?_); rintro e w10 ⟨rfl, hb10⟩; have H10 := Lib.hid (H9.out.below hb10); clear hb10))
          exact ⟨⟨k + 1, by omega, by omega, by go_num, HNX.out w10 _ H10.out⟩, by simp [intOf]; omega⟩
    · by_cases hx : k < xs.length
      · have dl1 : decide ((k : Int) < (xs.length : Int)) = true := by simp; omega
        have dl2 : decide ((k : Int) < 60) = false := by simp; omega
        have HV1 := Lib.hid (view_ok wr own' 100 g gs ga S M G C (by omega) N1)
        have HV2 := Lib.hid (fun (W : World) (h : Below wr.heap.size wr W) => view_ok W _ 200 g2 gs2 ga2 T (M2.below h) G2 C2 (by omega) N2)
        have HEQ := Lib.hid (fun n => cellV_same (S := S) (T := T) (D := D) (E := E) R.ar R.d n)
        have HBB := Lib.hid hb
        clear M M2 G G2 C C2 N1 N2 R kp hb
        have tok4 : True := trivial
        go_upto_region 28 with (first
          | (go_at_call 21; have _t := tok4; (with_reducible refine Calls.mono HV1.out ?_); clear tok4; rintro e w5 ⟨⟨zA, zn, zc⟩, o5, rfl, z1, z2, z3⟩; obtain rfl : zn = 48 := (ow_len z1).1.symm.trans (vwP_len _ _ _); have HS1 := Lib.hid (And.intro (ss_of z1) z3); clear z1 z2 z3; unfold Sl.enc; dsimp only)
          | (go_at_call 21; (with_reducible refine Calls.mono (HV2.out w5 HS1.out.2) ?_); rintro e w6 ⟨⟨uA, un, uc⟩, o6, rfl, u1, u2, u3⟩; obtain rfl : un = 48 := (ow_len u1).1.symm.trans (vwP_len _ _ _); have HS2 := Lib.hid (And.intro (ss_of u1) u3); clear u1 u2 u3; unfold Sl.enc; dsimp only))
        have HL1 := Lib.hid (HS1.out.1.below HS2.out.2)
        have hti0 : (ti : Int) < 8 := by omega
        go_wp2_with fail
        go_loopw [32] (fun v wr2 => ∃ jn : Nat, 6 * ti ≤ jn ∧ jn ≤ 6 * ti + 6 ∧ v = .int .i64 (jn : Int) ∧ Below w6.heap.size w6 wr2) (fun v _ => 6 * ti + 6 - (intOf v).toNat)
        case atStart => exact ⟨6 * ti, by omega, by omega, by first | rfl | (congr 1; omega) | (simp; omega), Below.refl _ _⟩
        case round =>
          obtain ⟨jn, hj1, hj2, rfl, hb6⟩ := hrel
          by_cases hlt : jn < 6 * ti + 6
          · have dj : decide ((jn : Int) < 6 * ((ti : Int) + 1)) = true := by simp; omega
            have hj48 : (jn : Int) < 48 := by omega
            have hj0 : (0 : Int) ≤ (jn : Int) := by omega
            have z9 := vwP_at S D 8 ti (jn - 6 * ti) (by omega) hti8
            have u9 := vwP_at T E 8 ti (jn - 6 * ti) (by omega) hti8
            rw [show 6 * ti + (jn - 6 * ti) = jn by omega] at z9 u9
            rw [← HEQ.out] at u9
            generalize cellV S D ti (jn - 6 * ti) = cv at *
            obtain ⟨zb, hzA, z0⟩ := (HL1.out.below hb6) jn cv z9
            obtain ⟨ub, huA, u0⟩ := (HS2.out.1.below hb6) jn cv u9
            subst hzA
            subst huA
            have hcv : (!cv.toList == cv.toList) = false := by simp
            have HB7 := Lib.hid (hb6.drew)
            clear z9 u9 hb6
            go_upto_region 30 with (fail)
            refine start_ (n := 9) (S := fun w' => w'.cell? ⟨zb, jn, none⟩ = some (.string cv) ∧ w'.cell? ⟨ub, jn, none⟩ = some (.string cv)) (ds := []) #[false, false, false, false, false, false, false, false, false] (by kernel_rfl) rfl rfl ⟨z0, u0⟩ (fun hHeld => ?_)
            refine pure_ (i := 0) (N := some 193) (v := ?_) (a' := ?_) #[true, false, false, false, false, false, false, false, false] rfl rfl (by kernel_rfl) (fun _ _ _ h => h) (Or.inl ⟨by rfl, ?_⟩) ?_ ?_
            rotate_left
            · intro w'
              go_simp
              with_reducible rfl
            rotate_left
            · simp only [Act.put, List.setIfInBounds_toArray, List.set_cons_zero, List.set_cons_succ, i64_w, i32_w]
              rfl
            refine pure_ (i := 1) (N := some 194) (v := ?_) (a' := ?_) #[true, true, false, false, false, false, false, false, false] rfl rfl (by kernel_rfl) (fun _ _ _ h => h) (Or.inl ⟨by rfl, ?_⟩) ?_ ?_
            rotate_left
            · intro w'
              go_simp
              with_reducible rfl
            rotate_left
            · simp only [Act.put, List.setIfInBounds_toArray, List.set_cons_zero, List.set_cons_succ, i64_w, i32_w]
              rfl
            refine pure_ (i := 2) (N := some 195) (v := ?_) (a' := ?_) #[true, true, true, false, false, false, false, false, false] rfl rfl (by kernel_rfl) (fun _ _ _ h => h) (Or.inl ⟨by rfl, ?_⟩) ?_ ?_
            rotate_left
            · intro w'
              go_simp
              with_reducible rfl
            rotate_left
            · simp only [Act.put, List.setIfInBounds_toArray, List.set_cons_zero, List.set_cons_succ, i64_w, i32_w]
              rfl
            refine take_ (i := 3) (N := some 196) (v := ?_) (a' := ?_) #[true, true, true, true, false, false, false, false, false] rfl rfl (by kernel_rfl) (fun _ _ _ h => h) (Or.inl ⟨by rfl, ?_⟩) hHeld ?_ ?_
            rotate_left
            · intro w' s0
              obtain ⟨q1, q2⟩ := s0
              go_simp
              with_reducible rfl
            rotate_left
            · simp only [Act.put, List.setIfInBounds_toArray, List.set_cons_zero, List.set_cons_succ, i64_w, i32_w]
              rfl
            refine pure_ (i := 4) (N := some 197) (v := ?_) (a' := ?_) #[true, true, true, true, true, false, false, false, false] rfl rfl (by kernel_rfl) (fun _ _ _ h => h) (Or.inl ⟨by rfl, ?_⟩) ?_ ?_
            rotate_left
            · intro w'
              go_simp
              with_reducible rfl
            rotate_left
            · simp only [Act.put, List.setIfInBounds_toArray, List.set_cons_zero, List.set_cons_succ, i64_w, i32_w]
              rfl
            refine pure_ (i := 5) (N := some 198) (v := ?_) (a' := ?_) #[true, true, true, true, true, true, false, false, false] rfl rfl (by kernel_rfl) (fun _ _ _ h => h) (Or.inl ⟨by rfl, ?_⟩) ?_ ?_
            rotate_left
            · intro w'
              go_simp
              with_reducible rfl
            rotate_left
            · simp only [Act.put, List.setIfInBounds_toArray, List.set_cons_zero, List.set_cons_succ, i64_w, i32_w]
              rfl
            refine pure_ (i := 6) (N := some 199) (v := ?_) (a' := ?_) #[true, true, true, true, true, true, true, false, false] rfl rfl (by kernel_rfl) (fun _ _ _ h => h) (Or.inl ⟨by rfl, ?_⟩) ?_ ?_
            rotate_left
            · intro w'
              go_simp
              with_reducible rfl
            rotate_left
            · simp only [Act.put, List.setIfInBounds_toArray, List.set_cons_zero, List.set_cons_succ, i64_w, i32_w]
              rfl
            refine take_ (i := 7) (N := some 200) (v := ?_) (a' := ?_) #[true, true, true, true, true, true, true, true, false] rfl rfl (by kernel_rfl) (fun _ _ _ h => h) (Or.inl ⟨by rfl, ?_⟩) hHeld ?_ ?_
            rotate_left
            · intro w' s0
              obtain ⟨q1, q2⟩ := s0
              go_simp
              with_reducible rfl
            rotate_left
            · simp only [Act.put, List.setIfInBounds_toArray, List.set_cons_zero, List.set_cons_succ, i64_w, i32_w]
              rfl
            refine pure_ (i := 8) (N := some 201) (v := ?_) (a' := ?_) #[true, true, true, true, true, true, true, true, true] rfl rfl (by kernel_rfl) (fun _ _ _ h => h) (Or.inl ⟨by rfl, ?_⟩) ?_ ?_
            rotate_left
            · intro w'
              go_simp
              with_reducible rfl
            rotate_left
            · simp only [Act.put, List.setIfInBounds_toArray, List.set_cons_zero, List.set_cons_succ, i64_w, i32_w]
              rfl
            refine done_ (by kernel_rfl) ?_
            clear hHeld
            go_wp2_with fail
            exact ⟨⟨jn + 1, by omega, by omega, by go_num, HB7.out⟩, by simp [intOf]; omega⟩
          · have dj : decide ((jn : Int) < 6 * ((ti : Int) + 1)) = false := by simp; omega
            have HE := Lib.hid ((HBB.out.trans (HS1.out.2.mono HBB.out.size)).trans ((HS2.out.2.trans (hb6.mono HS2.out.2.size)).mono (Nat.le_trans HBB.out.size HS1.out.2.size)))
            clear hb6
            go_wp2_with fail
            go_ret
            exact ⟨rfl, HE.out⟩
      · have dl1 : decide ((k : Int) < (xs.length : Int)) = false := by simp; omega
        have HV1 := Lib.hid (view_ok wr own' 100 g gs ga S M G C (by omega) N1)
        have HV2 := Lib.hid (fun (W : World) (h : Below wr.heap.size wr W) => view_ok W _ 200 g2 gs2 ga2 T (M2.below h) G2 C2 (by omega) N2)
        have HEQ := Lib.hid (fun n => cellV_same (S := S) (T := T) (D := D) (E := E) R.ar R.d n)
        have HBB := Lib.hid hb
        clear M M2 G G2 C C2 N1 N2 R kp hb
        have tok4 : True := trivial
        go_upto_region 28 with (first
          | (go_at_call 21; have _t := tok4; (with_reducible refine Calls.mono HV1.out ?_); clear tok4; rintro e w5 ⟨⟨zA, zn, zc⟩, o5, rfl, z1, z2, z3⟩; obtain rfl : zn = 48 := (ow_len z1).1.symm.trans (vwP_len _ _ _); have HS1 := Lib.hid (And.intro (ss_of z1) z3); clear z1 z2 z3; unfold Sl.enc; dsimp only)
          | (go_at_call 21; (with_reducible refine Calls.mono (HV2.out w5 HS1.out.2) ?_); rintro e w6 ⟨⟨uA, un, uc⟩, o6, rfl, u1, u2, u3⟩; obtain rfl : un = 48 := (ow_len u1).1.symm.trans (vwP_len _ _ _); have HS2 := Lib.hid (And.intro (ss_of u1) u3); clear u1 u2 u3; unfold Sl.enc; dsimp only))
        have HL1 := Lib.hid (HS1.out.1.below HS2.out.2)
        have hti0 : (ti : Int) < 8 := by omega
        go_wp2_with fail
        go_loopw [32] (fun v wr2 => ∃ jn : Nat, 6 * ti ≤ jn ∧ jn ≤ 6 * ti + 6 ∧ v = .int .i64 (jn : Int) ∧ Below w6.heap.size w6 wr2) (fun v _ => 6 * ti + 6 - (intOf v).toNat)
        case atStart => exact ⟨6 * ti, by omega, by omega, by first | rfl | (congr 1; omega) | (simp; omega), Below.refl _ _⟩
        case round =>
          obtain ⟨jn, hj1, hj2, rfl, hb6⟩ := hrel
          by_cases hlt : jn < 6 * ti + 6
          · have dj : decide ((jn : Int) < 6 * ((ti : Int) + 1)) = true := by simp; omega
            have hj48 : (jn : Int) < 48 := by omega
            have hj0 : (0 : Int) ≤ (jn : Int) := by omega
            have z9 := vwP_at S D 8 ti (jn - 6 * ti) (by omega) hti8
            have u9 := vwP_at T E 8 ti (jn - 6 * ti) (by omega) hti8
            rw [show 6 * ti + (jn - 6 * ti) = jn by omega] at z9 u9
            rw [← HEQ.out] at u9
            generalize cellV S D ti (jn - 6 * ti) = cv at *
            obtain ⟨zb, hzA, z0⟩ := (HL1.out.below hb6) jn cv z9
            obtain ⟨ub, huA, u0⟩ := (HS2.out.1.below hb6) jn cv u9
            subst hzA
            subst huA
            have hcv : (!cv.toList == cv.toList) = false := by simp
            have HB7 := Lib.hid (hb6.drew)
            clear z9 u9 hb6
            go_upto_region 30 with (fail)
            refine start_ (n := 9) (S := fun w' => w'.cell? ⟨zb, jn, none⟩ = some (.string cv) ∧ w'.cell? ⟨ub, jn, none⟩ = some (.string cv)) (ds := []) #[false, false, false, false, false, false, false, false, false] (by kernel_rfl) rfl rfl ⟨z0, u0⟩ (fun hHeld => ?_)
            refine pure_ (i := 0) (N := some 193) (v := ?_) (a' := ?_) #[true, false, false, false, false, false, false, false, false] rfl rfl (by kernel_rfl) (fun _ _ _ h => h) (Or.inl ⟨by rfl, ?_⟩) ?_ ?_
            rotate_left
            · intro w'
              go_simp
              with_reducible rfl
            rotate_left
            · simp only [Act.put, List.setIfInBounds_toArray, List.set_cons_zero, List.set_cons_succ, i64_w, i32_w]
              rfl
            refine pure_ (i := 1) (N := some 194) (v := ?_) (a' := ?_) #[true, true, false, false, false, false, false, false, false] rfl rfl (by kernel_rfl) (fun _ _ _ h => h) (Or.inl ⟨by rfl, ?_⟩) ?_ ?_
            rotate_left
            · intro w'
              go_simp
              with_reducible rfl
            rotate_left
            · simp only [Act.put, List.setIfInBounds_toArray, List.set_cons_zero, List.set_cons_succ, i64_w, i32_w]
              rfl
            refine pure_ (i := 2) (N := some 195) (v := ?_) (a' := ?_) #[true, true, true, false, false, false, false, false, false] rfl rfl (by kernel_rfl) (fun _ _ _ h => h) (Or.inl ⟨by rfl, ?_⟩) ?_ ?_
            rotate_left
            · intro w'
              go_simp
              with_reducible rfl
            rotate_left
            · simp only [Act.put, List.setIfInBounds_toArray, List.set_cons_zero, List.set_cons_succ, i64_w, i32_w]
              rfl
            refine take_ (i := 3) (N := some 196) (v := ?_) (a' := ?_) #[true, true, true, true, false, false, false, false, false] rfl rfl (by kernel_rfl) (fun _ _ _ h => h) (Or.inl ⟨by rfl, ?_⟩) hHeld ?_ ?_
            rotate_left
            · intro w' s0
              obtain ⟨q1, q2⟩ := s0
              go_simp
              with_reducible rfl
            rotate_left
            · simp only [Act.put, List.setIfInBounds_toArray, List.set_cons_zero, List.set_cons_succ, i64_w, i32_w]
              rfl
            refine pure_ (i := 4) (N := some 197) (v := ?_) (a' := ?_) #[true, true, true, true, true, false, false, false, false] rfl rfl (by kernel_rfl) (fun _ _ _ h => h) (Or.inl ⟨by rfl, ?_⟩) ?_ ?_
            rotate_left
            · intro w'
              go_simp
              with_reducible rfl
            rotate_left
            · simp only [Act.put, List.setIfInBounds_toArray, List.set_cons_zero, List.set_cons_succ, i64_w, i32_w]
              rfl
            refine pure_ (i := 5) (N := some 198) (v := ?_) (a' := ?_) #[true, true, true, true, true, true, false, false, false] rfl rfl (by kernel_rfl) (fun _ _ _ h => h) (Or.inl ⟨by rfl, ?_⟩) ?_ ?_
            rotate_left
            · intro w'
              go_simp
              with_reducible rfl
            rotate_left
            · simp only [Act.put, List.setIfInBounds_toArray, List.set_cons_zero, List.set_cons_succ, i64_w, i32_w]
              rfl
            refine pure_ (i := 6) (N := some 199) (v := ?_) (a' := ?_) #[true, true, true, true, true, true, true, false, false] rfl rfl (by kernel_rfl) (fun _ _ _ h => h) (Or.inl ⟨by rfl, ?_⟩) ?_ ?_
            rotate_left
            · intro w'
              go_simp
              with_reducible rfl
            rotate_left
            · simp only [Act.put, List.setIfInBounds_toArray, List.set_cons_zero, List.set_cons_succ, i64_w, i32_w]
              rfl
            refine take_ (i := 7) (N := some 200) (v := ?_) (a' := ?_) #[true, true, true, true, true, true, true, true, false] rfl rfl (by kernel_rfl) (fun _ _ _ h => h) (Or.inl ⟨by rfl, ?_⟩) hHeld ?_ ?_
            rotate_left
            · intro w' s0
              obtain ⟨q1, q2⟩ := s0
              go_simp
              with_reducible rfl
            rotate_left
            · simp only [Act.put, List.setIfInBounds_toArray, List.set_cons_zero, List.set_cons_succ, i64_w, i32_w]
              rfl
            refine pure_ (i := 8) (N := some 201) (v := ?_) (a' := ?_) #[true, true, true, true, true, true, true, true, true] rfl rfl (by kernel_rfl) (fun _ _ _ h => h) (Or.inl ⟨by rfl, ?_⟩) ?_ ?_
            rotate_left
            · intro w'
              go_simp
              with_reducible rfl
            rotate_left
            · simp only [Act.put, List.setIfInBounds_toArray, List.set_cons_zero, List.set_cons_succ, i64_w, i32_w]
              rfl
            refine done_ (by kernel_rfl) ?_
            clear hHeld
            go_wp2_with fail
            exact ⟨⟨jn + 1, by omega, by omega, by go_num, HB7.out⟩, by simp [intOf]; omega⟩
          · have dj : decide ((jn : Int) < 6 * ((ti : Int) + 1)) = false := by simp; omega
            have HE := Lib.hid ((HBB.out.trans (HS1.out.2.mono HBB.out.size)).trans ((HS2.out.2.trans (hb6.mono HS2.out.2.size)).mono (Nat.le_trans HBB.out.size HS1.out.2.size)))
            clear hb6
            go_wp2_with fail
            go_ret
            exact ⟨rfl, HE.out⟩
end Go.Proofs.YtmofiicjaldmiaaGreatDoor.SwZ
