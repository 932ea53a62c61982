/- Texts of Saves: SavesAgain, the walk -/
import Derived.Test.YtmofiicjaldmiaaGreatDoorMd
import Derived.Deep.Slices
import Derived.Deep.Fields
import Derived.ChangeSame
import Derived.Lib.SmallJoins
import Derived.SliceStrings
import Derived.Test.YtmofiicjaldmiaaGreatDoorRows
namespace Go.Proofs.YtmofiicjaldmiaaGreatDoor.SwS
open Go.RowKit Go.Shelf Go.Proofs.YtmofiicjaldmiaaGreatDoorW.PrintWords Go.Proofs.YtmofiicjaldmiaaGreatDoorW.PrintLast Go.Proofs.YtmofiicjaldmiaaGreatDoor.SvA Go.Proofs.YtmofiicjaldmiaaGreatDoor.SvB Go.Proofs.YtmofiicjaldmiaaGreatDoor.SvC Go.Proofs.YtmofiicjaldmiaaGreatDoor.SvD Go.Proofs.YtmofiicjaldmiaaGreatDoor.SvE Go.Proofs.YtmofiicjaldmiaaGreatDoor.SvF Go.Proofs.YtmofiicjaldmiaaGreatDoor.SvG Go.Proofs.YtmofiicjaldmiaaGreatDoor.SvH Go.Proofs.YtmofiicjaldmiaaGreatDoor.SvI Go.Proofs.YtmofiicjaldmiaaGreatDoor.SvJ Go.Proofs.YtmofiicjaldmiaaGreatDoor.SvK Go.Proofs.YtmofiicjaldmiaaGreatDoor.SvL Go.Proofs.YtmofiicjaldmiaaGreatDoor.SvM Go.Proofs.YtmofiicjaldmiaaGreatDoor.SvN Go.Proofs.YtmofiicjaldmiaaGreatDoor.SvO Go.Proofs.YtmofiicjaldmiaaGreatDoor.SvP Go.Proofs.YtmofiicjaldmiaaGreatDoor.SvQ Go.Proofs.YtmofiicjaldmiaaGreatDoor.SvR Go.Proofs.YtmofiicjaldmiaaGreatDoor.SvS Go.Proofs.YtmofiicjaldmiaaGreatDoor.SvT Go.Proofs.YtmofiicjaldmiaaGreatDoor.SvU Go.Proofs.YtmofiicjaldmiaaGreatDoor.SvV Go.Proofs.YtmofiicjaldmiaaGreatDoor.SvW Go.Proofs.YtmofiicjaldmiaaGreatDoor.SvX Go.Proofs.YtmofiicjaldmiaaGreatDoor.SvY Go.Proofs.YtmofiicjaldmiaaGreatDoor.SvZ Go.Proofs.YtmofiicjaldmiaaGreatDoor.SwA Go.Proofs.YtmofiicjaldmiaaGreatDoor.SwB Go.Proofs.YtmofiicjaldmiaaGreatDoor.SwC Go.Proofs.YtmofiicjaldmiaaGreatDoor.SwD Go.Proofs.YtmofiicjaldmiaaGreatDoor.SwE Go.Proofs.YtmofiicjaldmiaaGreatDoor.SwF Go.Proofs.YtmofiicjaldmiaaGreatDoor.SwG Go.Proofs.YtmofiicjaldmiaaGreatDoor.SwI Go.Proofs.YtmofiicjaldmiaaGreatDoor.SwJ Go.Proofs.YtmofiicjaldmiaaGreatDoor.SwK Go.Proofs.YtmofiicjaldmiaaGreatDoor.SwH Go.Proofs.YtmofiicjaldmiaaGreatDoor.SwL Go.Proofs.YtmofiicjaldmiaaGreatDoor.SwM Go.Proofs.YtmofiicjaldmiaaGreatDoor.SwN Go.Proofs.YtmofiicjaldmiaaGreatDoor.SwO Go.Proofs.YtmofiicjaldmiaaGreatDoor.SwP Go.Proofs.YtmofiicjaldmiaaGreatDoor.SwQ Go.Proofs.YtmofiicjaldmiaaGreatDoor.SwR
set_option linter.unusedVariables false
set_option linter.unusedSimpArgs false
open Go.Lib
abbrev again : ByteArray := ⟨#[97, 103, 97, 105, 110]⟩
theorem list_one {w w' : World} {es : List EN} {e : Ending} (h : ListP w es e w') {x : EN} (hx : es = [x]) : ∃ b c, e = .returned (.tuple #[.slice (some ⟨b, 0, none⟩) 1 c, .int .i64 0]) ∧ w'.cell? ⟨b, 0, none⟩ = some (.string x.hd.name) ∧ w'.cell? ⟨b, 1, none⟩ = some (.int .i64 x.hd.ver) ∧ w'.cell? ⟨b, 2, none⟩ = some (.int .i64 x.hd.size) ∧ Below w.heap.size w w' := by
  obtain ⟨z, o, l, rfl, h1, h2, h3, h4, h5⟩ := h
  subst hx
  have hl : l = [infoS x] := List.perm_singleton.1 h4
  subst hl
  have hn : z.n = 1 := (ow_len h1).1.symm
  obtain ⟨gb, hz⟩ := ow_head h1 (by omega)
  obtain ⟨A, n, c⟩ := z
  injection hz with hA _ _
  subst hA
  dsimp only at hn
  subst hn
  obtain ⟨cur, c1, c2, c3, c4, c5, c6⟩ := ow_in h1
  exact ⟨gb, c, rfl, Blk.cell c1 (c6 0 (by omega)), Blk.cell c1 (c6 1 (by omega)), Blk.cell c1 (c6 2 (by omega)), h3⟩
theorem sect_ok (w : World) (own : Nat → Nat) (t gs : Nat) (b : BS) (H : StA w own t gs b) (hz : b.safe.length < 2 ^ 40) : Calls Tryz.prog 22 #[pt gs] w fun e w' => e = .returned (.int .i64 (b.n : Int)) ∧ w = w' := by
  obtain ⟨zs, zp, ps, hg, hbs, hs, hpe, hd⟩ := H
  have hzl : zs.n = b.safe.length := (ow_len hs).1.symm
  have h := sectors_ok w gs zs _ _ _ hbs (by rw [hzl]; exact hz)
  rw [hzl] at h
  exact h
theorem kp_zero {ts : Nat → Prop} {w w' : World} (h : Below w.heap.size w w') : Kp ts w (fun _ => 0) w' (fun _ => 0) := ⟨h.os, h.tape, h.output, h.size, fun k hk _ => ⟨rfl, h.block k hk⟩⟩
/-- behind k puts -/
def AgP (S : SV) (i : Nat) (k n : Nat) : Prop := (k = 0 ∧ (S.ar i).ents = []) ∨ (0 < k ∧ Alone S i again (k : Int) n)
theorem ag_put {S : SV} {N m i k n : Nat} (hg : GS S N m) (hi : i < 8) (h : AgP S i k n) (data : List Int) (hd : data.length = n) (hr : 1 < (S.ar i).heads ∧ many n + many n ≤ (S.ar i).sec - (S.ar i).heads) : (putR S i again data).2 = 0 ∧ Alone (putR S i again data).1 i again ((k + 1 : Nat) : Int) n := by
  subst hd
  rcases h with ⟨rfl, h⟩ | ⟨hk, h⟩
  · exact alone_first hg hi h again data ⟨by omega, by omega⟩
  · exact alone_next hg hi h data hr
theorem ag_del {S : SV} {N m i : Nat} (hg : GS S N m) (hi : i < 8) {v : Int} {n : Nat} (h : Alone S i again v n) : (delR S i again).2 = 0 ∧ ((delR S i again).1.ar i).ents = [] := by
  obtain ⟨e, h1, h2, h3, h4⟩ := h
  unfold delR
  rw [← h2, oldS_one h1]
  refine ⟨rfl, ?_⟩
  show ((delS S i 0 e).ar i).ents = []
  rw [delS_eq, setE_ar, if_pos rfl, h1]
  rfl
/-- how the law stands at the head of a round -/
def AgSt (w : World) (N g gs : Nat) (ga : Nat → Nat) (i n : Nat) (k : Nat) (wr : World) : Prop := ∃ S own' D, SvMem wr own' 100 g gs ga S ∧ GS S N k ∧ CS S D ∧ AgP S i k n ∧ (∀ j, (S.ar j).heads = (N / 8 + 7) / 8 ∧ (S.ar j).sec = N / 8) ∧ Kp (k20 100) w (fun _ => 0) wr own'
end Go.Proofs.YtmofiicjaldmiaaGreatDoor.SwS
namespace Go.Proofs.YtmofiicjaldmiaaGreatDoor.SwT
open Go.RowKit Go.Shelf Go.Proofs.YtmofiicjaldmiaaGreatDoorW.PrintWords Go.Proofs.YtmofiicjaldmiaaGreatDoorW.PrintLast Go.Proofs.YtmofiicjaldmiaaGreatDoor.SvA Go.Proofs.YtmofiicjaldmiaaGreatDoor.SvB Go.Proofs.YtmofiicjaldmiaaGreatDoor.SvC Go.Proofs.YtmofiicjaldmiaaGreatDoor.SvD Go.Proofs.YtmofiicjaldmiaaGreatDoor.SvE Go.Proofs.YtmofiicjaldmiaaGreatDoor.SvF Go.Proofs.YtmofiicjaldmiaaGreatDoor.SvG Go.Proofs.YtmofiicjaldmiaaGreatDoor.SvH Go.Proofs.YtmofiicjaldmiaaGreatDoor.SvI Go.Proofs.YtmofiicjaldmiaaGreatDoor.SvJ Go.Proofs.YtmofiicjaldmiaaGreatDoor.SvK Go.Proofs.YtmofiicjaldmiaaGreatDoor.SvL Go.Proofs.YtmofiicjaldmiaaGreatDoor.SvM Go.Proofs.YtmofiicjaldmiaaGreatDoor.SvN Go.Proofs.YtmofiicjaldmiaaGreatDoor.SvO Go.Proofs.YtmofiicjaldmiaaGreatDoor.SvP Go.Proofs.YtmofiicjaldmiaaGreatDoor.SvQ Go.Proofs.YtmofiicjaldmiaaGreatDoor.SvR Go.Proofs.YtmofiicjaldmiaaGreatDoor.SvS Go.Proofs.YtmofiicjaldmiaaGreatDoor.SvT Go.Proofs.YtmofiicjaldmiaaGreatDoor.SvU Go.Proofs.YtmofiicjaldmiaaGreatDoor.SvV Go.Proofs.YtmofiicjaldmiaaGreatDoor.SvW Go.Proofs.YtmofiicjaldmiaaGreatDoor.SvX Go.Proofs.YtmofiicjaldmiaaGreatDoor.SvY Go.Proofs.YtmofiicjaldmiaaGreatDoor.SvZ Go.Proofs.YtmofiicjaldmiaaGreatDoor.SwA Go.Proofs.YtmofiicjaldmiaaGreatDoor.SwB Go.Proofs.YtmofiicjaldmiaaGreatDoor.SwC Go.Proofs.YtmofiicjaldmiaaGreatDoor.SwD Go.Proofs.YtmofiicjaldmiaaGreatDoor.SwE Go.Proofs.YtmofiicjaldmiaaGreatDoor.SwF Go.Proofs.YtmofiicjaldmiaaGreatDoor.SwG Go.Proofs.YtmofiicjaldmiaaGreatDoor.SwI Go.Proofs.YtmofiicjaldmiaaGreatDoor.SwJ Go.Proofs.YtmofiicjaldmiaaGreatDoor.SwK Go.Proofs.YtmofiicjaldmiaaGreatDoor.SwH Go.Proofs.YtmofiicjaldmiaaGreatDoor.SwL Go.Proofs.YtmofiicjaldmiaaGreatDoor.SwM Go.Proofs.YtmofiicjaldmiaaGreatDoor.SwN Go.Proofs.YtmofiicjaldmiaaGreatDoor.SwO Go.Proofs.YtmofiicjaldmiaaGreatDoor.SwP Go.Proofs.YtmofiicjaldmiaaGreatDoor.SwQ Go.Proofs.YtmofiicjaldmiaaGreatDoor.SwR Go.Proofs.YtmofiicjaldmiaaGreatDoor.SwS
set_option linter.unusedVariables false
set_option linter.unusedSimpArgs false
open Go.ChangeShapes Go.WideShapes Go.Deep Go.Lib Go.Joins
section
variable {H : Type} {enc : TypeId × Value → H} {P : Program} {w : World} {base : Nat} {spare : Nat → Bool} {held : Bool}
theorem open_slice_fields {t e : TypeId} {fs : Array Field} {fuel : Nat} {cs : List Value} {x : DataW H × List MemPlace} (ht : P.underlying t = some (.slice e)) (he : P.underlying e = some (.struct fs))
    (hone : oneCellFields P fs = true) (hC : P.cellsOf e = fs.size) (h : DataW.trod enc P w base spare held fuel t cs = some x) :
    (cs = [.slice none 0 0] ∧ x = (.nil, [])) ∨
    ∃ (a : Addr) (len cap m : Nat) (D : Nat → DataW H) (Pl : Nat → List MemPlace), cs = [.slice (some a) len cap] ∧ base ≤ a.block ∧ len ≤ cap ∧ cap ≤ maxLen ∧ m = (if spare a.block then cap else len) ∧
      x = (.slice ((List.range len).map D) ((List.range (m - len)).map fun j => D (len + j)), MemPlace.row a (m * fs.size) ++ (List.range m).flatMap Pl) ∧
      ∀ i, i < m → ∃ (ys : List (DataW H × List MemPlace)) (n : Nat), D i = .agg (ys.map (·.1)) ∧ Pl i = ys.flatMap (·.2) ∧ ys.length = fs.size ∧
        ∀ (j : Nat) (f : Field), fs[j]? = some f → ∃ (v : Value) (y : DataW H × List MemPlace), w.cell? (a.add (i * fs.size + j)) = some v ∧ ys[j]? = some y ∧ DataW.trod enc P w base spare held n f.type [v] = some y := by
  rcases open_slice ht h with h0 | ⟨a, len, cap, m, n, D, Pl, hcs, hb, hl, hm, hmm, hx, hi⟩
  · exact .inl h0
  · refine .inr ⟨a, len, cap, m, D, Pl, hcs, hb, hl, hm, hmm, by rw [hC] at hx; exact hx, fun i him => ?_⟩
    obtain ⟨cs', hc, ht'⟩ := hi i him
    rw [hC] at hc
    obtain ⟨ys, n', hn', hy, hlen, hyl, hf⟩ := DataW.trod_struct he ht'
    obtain ⟨_, hcl, hat⟩ := World.cells?_some hc
    simp only [Prod.mk.injEq] at hy
    refine ⟨ys, n', hy.1, hy.2, hyl, fun j f hj => ?_⟩
    obtain ⟨ho, hk⟩ := hone_of hone j f hj
    have hjl : j < fs.size := (Array.getElem?_eq_some_iff.1 hj).1
    have hcell := hat j hjl
    have hv : cs'[j]? = some (cs'[j]'(by omega)) := List.getElem?_eq_getElem (by omega)
    have h1 := hf j f hj
    rw [ho, hk] at h1
    have hone' : (cs'.drop j).take 1 = [cs'[j]'(by omega)] := by
      rw [List.drop_eq_getElem_cons (by omega)]
      rfl
    rw [hone'] at h1
    have hys : ys[j]? = some (ys[j]'(by omega)) := List.getElem?_eq_getElem (by omega)
    refine ⟨_, _, ?_, hys, h1.trans hys⟩
    rw [← Go.Deep.add_add, hcell, hv]
end
/-- acts in memory -/
def AcAt (w : World) (A : Option Addr) (xs : List AC) : Prop := ∀ (k : Nat) (x : AC), xs[k]? = some x → x.wf ∧ ∃ ad : Addr, A = some ad ∧ w.cell? (ad.add (k * 4)) = some (.int .i64 x.kind) ∧ w.cell? ⟨(ad.add (k * 4)).block, (ad.add (k * 4)).off + 1, none⟩ = some (.int .i64 x.ten) ∧
  w.cell? ⟨(ad.add (k * 4)).block, (ad.add (k * 4)).off + 2, none⟩ = some (.int .i64 x.nm) ∧ w.cell? ⟨(ad.add (k * 4)).block, (ad.add (k * 4)).off + 3, none⟩ = some (.int .i64 x.bytes)
theorem AcAt.below {w w' : World} {A : Option Addr} {xs : List AC} (h : AcAt w A xs) (hb : Below w.heap.size w w') : AcAt w' A xs := fun k x hx => by
  obtain ⟨h0, ad, h1, h2, h3, h4, h5⟩ := h k x hx
  exact ⟨h0, ad, h1, cellOf hb h2, cellOf hb h3, cellOf hb h4, cellOf hb h5⟩
theorem wf_i64 {n : Int} (h : (Lit.int .i64 n).wf = true) : i64s n := by
  simp [Lit.wf, IntKind.min, IntKind.max, IntKind.signed, IntKind.bits] at h
  exact ⟨by omega, by omega⟩
theorem add_field (x : Addr) (s j : Nat) (hj : 0 < j) : x.add (s + j) = ⟨(x.add s).block, (x.add s).off + j, none⟩ := by
  rw [← Go.Deep.add_add]
  generalize x.add s = y
  unfold Addr.add
  rw [if_neg (by omega)]
set_option maxRecDepth 100000 in
theorem open_acts {H : Type} {enc : TypeId × Value → H} {W : World} {v : Value} {d : DataW H} {p : List MemPlace} (hv : Value.okWide Tryz.prog W .any 0 22 v) (h : DataW.Trod enc Tryz.prog W 0 (fun _ => true) true 22 v d p) :
    ∃ (A : Option Addr) (c : Nat) (xs : List AC), v = .slice A xs.length c ∧ AcAt W A xs ∧ xs.length ≤ c ∧ xs.length ≤ 9223372036854775807 := by
  obtain ⟨A, n, c, rfl⟩ := okWide_slice Tryz.underlying22 hv
  obtain ⟨fuel, hf⟩ := h
  rcases open_slice_fields Tryz.underlying22 Tryz.underlying33 (by kernel_rfl) (by kernel_rfl) hf with ⟨hcs, _⟩ | ⟨a, len, cap, m, D, Pl, hcs, _, hl, hm, hmm, hx, hi⟩
  · simp [Value.cells] at hcs
    obtain ⟨rfl, rfl, rfl⟩ := hcs
    exact ⟨none, 0, [], rfl, (fun k x hx => by simp at hx), by simp, by simp⟩
  · simp [Value.cells] at hcs
    obtain ⟨rfl, rfl, rfl⟩ := hcs
    have hcm : c = m := by rw [hmm]; simp
    have hone : ∀ i, ∃ x : AC, i < n → x.wf ∧ W.cell? (a.add (i * 4)) = some (.int .i64 x.kind) ∧ W.cell? ⟨(a.add (i * 4)).block, (a.add (i * 4)).off + 1, none⟩ = some (.int .i64 x.ten) ∧ W.cell? ⟨(a.add (i * 4)).block, (a.add (i * 4)).off + 2, none⟩ = some (.int .i64 x.nm) ∧ W.cell? ⟨(a.add (i * 4)).block, (a.add (i * 4)).off + 3, none⟩ = some (.int .i64 x.bytes) := fun i => by
      by_cases hin : i < n
      · obtain ⟨ys, k, hD, _, hys, hf⟩ := hi i (by omega)
        obtain ⟨v0, y0, c0, _, t0⟩ := hf 0 _ rfl
        obtain ⟨v1, y1, c1, _, t1⟩ := hf 1 _ rfl
        obtain ⟨v2, y2, c2, _, t2⟩ := hf 2 _ rfl
        obtain ⟨v3, y3, c3, _, t3⟩ := hf 3 _ rfl
        obtain ⟨n0, e0, _, w0⟩ := DataW.trod_int (k := .i64) Tryz.underlying3 t0
        obtain ⟨n1, e1, _, w1⟩ := DataW.trod_int (k := .i64) Tryz.underlying3 t1
        obtain ⟨n2, e2, _, w2⟩ := DataW.trod_int (k := .i64) Tryz.underlying3 t2
        obtain ⟨n3, e3, _, w3⟩ := DataW.trod_int (k := .i64) Tryz.underlying3 t3
        simp at e0 e1 e2 e3
        subst e0 e1 e2 e3
        exact ⟨⟨n0, n1, n2, n3⟩, fun _ => ⟨⟨wf_i64 w0, wf_i64 w1, wf_i64 w2, wf_i64 w3⟩, c0, by rw [← add_field _ _ 1 (by omega)]; exact c1, by rw [← add_field _ _ 2 (by omega)]; exact c2, by rw [← add_field _ _ 3 (by omega)]; exact c3⟩⟩
      · exact ⟨⟨0, 0, 0, 0⟩, fun h => absurd h hin⟩
    obtain ⟨g, hg⟩ := Classical.axiomOfChoice hone
    have hlen : ((List.range n).map g).length = n := by simp
    refine ⟨some a, c, (List.range n).map g, by rw [hlen], fun k x hx => ?_, by rw [hlen]; exact hl, by rw [hlen]; unfold maxLen at hm; omega⟩
    have hjn : k < n := by
      have := (List.getElem?_eq_some_iff.1 hx).1
      omega
    rw [List.getElem?_map, List.getElem?_range hjn] at hx
    simp at hx
    subst hx
    obtain ⟨g0, g1, g2, g3, g4⟩ := hg k hjn
    exact ⟨g0, a, rfl, g1, g2, g3, g4⟩
set_option maxRecDepth 100000 in
theorem open_act {H : Type} {enc : TypeId × Value → H} {W : World} {v : Value} {d : DataW H} {p : List MemPlace} (hv : Value.okWide Tryz.prog W .any 0 33 v) (h : DataW.Trod enc Tryz.prog W 0 (fun _ => true) true 33 v d p) :
    ∃ x : AC, v = x.enc ∧ x.wf := by
  obtain ⟨v0, v1, v2, v3, y0, y1, y2, y3, n, rfl, _, _, h0, h1, h2, h3⟩ := open_agg4 Tryz.underlying33 (by kernel_rfl) (by kernel_rfl) hv h
  obtain ⟨n0, e0, _, w0⟩ := DataW.trod_int (k := .i64) Tryz.underlying3 h0
  obtain ⟨n1, e1, _, w1⟩ := DataW.trod_int (k := .i64) Tryz.underlying3 h1
  obtain ⟨n2, e2, _, w2⟩ := DataW.trod_int (k := .i64) Tryz.underlying3 h2
  obtain ⟨n3, e3, _, w3⟩ := DataW.trod_int (k := .i64) Tryz.underlying3 h3
  simp at e0 e1 e2 e3
  subst e0 e1 e2 e3
  exact ⟨⟨n0, n1, n2, n3⟩, rfl, wf_i64 w0, wf_i64 w1, wf_i64 w2, wf_i64 w3⟩
theorem does_at (w : World) (own : Nat → Nat) (t g gs : Nat) (ga : Nat → Nat) (S : SV) (H : SvMem w own t g gs ga S) (ht : t ≠ 0) {n m : Nat} (hg : GS S n m) (hm : m + 1 < 4294967296) (W : World) (h : Below w.heap.size w W) (a : AC) (ha : a.wf) (most : Int) (h1 : 1 ≤ most) (h2 : most ≤ 100000) :
    Calls Tryz.prog 18 #[a.enc, pt g, .int .i64 most] W (ActR w own t g gs ga (doS S a most)) := by
  refine (does_ok W (tagged w own 0) t g gs ga S (H.below h) ht n m hg hm a ha most h1 h2).mono ?_
  intro e w' hr
  exact ActR.back hr (Kp.below h 0)
def doD (S : SV) (D : Nat → ByteArray → List Int) (a : AC) (most : Int) : Nat → ByteArray → List Int := if a.puts = true ∧ roomS (S.ar a.t0) (a.data most).length = true then putD D a.t0 a.name (a.data most) else D
theorem doS_all {S : SV} {n m : Nat} {D : Nat → ByteArray → List Int} (h : GS S n m) (hc : CS S D) (a : AC) (most : Int) (h1 : 1 ≤ most) (h2 : most ≤ 100000) (hm : m + 1 < 4294967296) : GS (doS S a most).1 n (m + 1) ∧ CS (doS S a most).1 (doD S D a most) := by
  unfold doS doD
  cases hp : a.puts
  · rw [if_neg (by decide), if_neg (by simp)]
    obtain ⟨x, y⟩ := delR_all h hc a.t0 a.t0_lt.1 a.name
    exact ⟨x.mono (by omega), y⟩
  · rw [if_pos rfl]
    have := putR_all h hc a.t0 a.t0_lt.1 a.name (AC.name_ok a) (a.data most) (dataS_u8 _ _) (by rw [AC.data_len]; have := (a.len_lt most (by omega)).1; omega) hm
    refine ⟨this.1, ?_⟩
    cases hr : roomS (S.ar a.t0) (a.data most).length
    · rw [hr] at this
      rw [if_neg (by simp)]
      exact this.2
    · rw [hr] at this
      rw [if_pos ⟨rfl, rfl⟩]
      exact this.2
theorem doS_put {S : SV} {a : AC} {most : Int} (hp : a.puts = true) : (doS S a most).2 = if roomS (S.ar a.t0) (a.len most) then 0 else 112 := by
  unfold doS putR
  rw [if_pos hp, AC.data_len]
  split <;> rfl
end Go.Proofs.YtmofiicjaldmiaaGreatDoor.SwT
namespace Go.Proofs.YtmofiicjaldmiaaGreatDoor.SwX
open Go.RowKit Go.Shelf Go.Proofs.YtmofiicjaldmiaaGreatDoorW.PrintWords Go.Proofs.YtmofiicjaldmiaaGreatDoorW.PrintLast Go.Proofs.YtmofiicjaldmiaaGreatDoor.SvA Go.Proofs.YtmofiicjaldmiaaGreatDoor.SvB Go.Proofs.YtmofiicjaldmiaaGreatDoor.SvC Go.Proofs.YtmofiicjaldmiaaGreatDoor.SvD Go.Proofs.YtmofiicjaldmiaaGreatDoor.SvE Go.Proofs.YtmofiicjaldmiaaGreatDoor.SvF Go.Proofs.YtmofiicjaldmiaaGreatDoor.SvG Go.Proofs.YtmofiicjaldmiaaGreatDoor.SvH Go.Proofs.YtmofiicjaldmiaaGreatDoor.SvI Go.Proofs.YtmofiicjaldmiaaGreatDoor.SvJ Go.Proofs.YtmofiicjaldmiaaGreatDoor.SvK Go.Proofs.YtmofiicjaldmiaaGreatDoor.SvL Go.Proofs.YtmofiicjaldmiaaGreatDoor.SvM Go.Proofs.YtmofiicjaldmiaaGreatDoor.SvN Go.Proofs.YtmofiicjaldmiaaGreatDoor.SvO Go.Proofs.YtmofiicjaldmiaaGreatDoor.SvP Go.Proofs.YtmofiicjaldmiaaGreatDoor.SvQ Go.Proofs.YtmofiicjaldmiaaGreatDoor.SvR Go.Proofs.YtmofiicjaldmiaaGreatDoor.SvS Go.Proofs.YtmofiicjaldmiaaGreatDoor.SvT Go.Proofs.YtmofiicjaldmiaaGreatDoor.SvU Go.Proofs.YtmofiicjaldmiaaGreatDoor.SvV Go.Proofs.YtmofiicjaldmiaaGreatDoor.SvW Go.Proofs.YtmofiicjaldmiaaGreatDoor.SvX Go.Proofs.YtmofiicjaldmiaaGreatDoor.SvY Go.Proofs.YtmofiicjaldmiaaGreatDoor.SvZ Go.Proofs.YtmofiicjaldmiaaGreatDoor.SwA Go.Proofs.YtmofiicjaldmiaaGreatDoor.SwB Go.Proofs.YtmofiicjaldmiaaGreatDoor.SwC Go.Proofs.YtmofiicjaldmiaaGreatDoor.SwD Go.Proofs.YtmofiicjaldmiaaGreatDoor.SwE Go.Proofs.YtmofiicjaldmiaaGreatDoor.SwF Go.Proofs.YtmofiicjaldmiaaGreatDoor.SwG Go.Proofs.YtmofiicjaldmiaaGreatDoor.SwI Go.Proofs.YtmofiicjaldmiaaGreatDoor.SwJ Go.Proofs.YtmofiicjaldmiaaGreatDoor.SwK Go.Proofs.YtmofiicjaldmiaaGreatDoor.SwH Go.Proofs.YtmofiicjaldmiaaGreatDoor.SwL Go.Proofs.YtmofiicjaldmiaaGreatDoor.SwM Go.Proofs.YtmofiicjaldmiaaGreatDoor.SwN Go.Proofs.YtmofiicjaldmiaaGreatDoor.SwO Go.Proofs.YtmofiicjaldmiaaGreatDoor.SwP Go.Proofs.YtmofiicjaldmiaaGreatDoor.SwQ Go.Proofs.YtmofiicjaldmiaaGreatDoor.SwR Go.Proofs.YtmofiicjaldmiaaGreatDoor.SwS Go.Proofs.YtmofiicjaldmiaaGreatDoor.SwT
set_option linter.unusedVariables false
set_option linter.unusedSimpArgs false
open Go.Lib
theorem bax {a b : ByteArray} (h : a ≠ b) : (a == b) = false := by
  rw [Bool.eq_false_iff]
  exact fun q => h ((ba_beq _ _).1 q)
abbrev strK : Kd ByteArray := Kd.string
theorem info9 : (Tryz.prog.info? 9).map (fun i => (i.zero, i.size, i.bytes)) = some (some (.string ⟨#[]⟩), 1, 16) := by kernel_rfl
/-! plain -/
def hasS (S : SV) (t : Nat) (name : ByteArray) : Bool := (oldS (S.ar t) name).isSome
def cellV (S : SV) (D : Nat → ByteArray → List Int) (t n : Nat) : ByteArray := if hasS S t (nmS n) then ⟨#[61]⟩ ++ strOfNums (D t (nmS n)) else ⟨#[45]⟩
def vwR (S : SV) (D : Nat → ByteArray → List Int) (t k : Nat) : List ByteArray := (List.range k).map (cellV S D t)
def vwP (S : SV) (D : Nat → ByteArray → List Int) (t : Nat) : List ByteArray := (List.range t).flatMap (fun t => vwR S D t 6)
theorem vwR_succ (S : SV) (D : Nat → ByteArray → List Int) (t k : Nat) : vwR S D t (k + 1) = vwR S D t k ++ [cellV S D t k] := by simp [vwR, List.range_succ]
theorem vwP_succ (S : SV) (D : Nat → ByteArray → List Int) (t : Nat) : vwP S D (t + 1) = vwP S D t ++ vwR S D t 6 := by simp [vwP, List.range_succ]
theorem vwR_len (S : SV) (D : Nat → ByteArray → List Int) (t k : Nat) : (vwR S D t k).length = k := by simp [vwR]
theorem vwP_len (S : SV) (D : Nat → ByteArray → List Int) (t : Nat) : (vwP S D t).length = 6 * t := by
  induction t with
  | zero => rfl
  | succ t ih => rw [vwP_succ, List.length_append, ih, vwR_len]; omega
/-- names that are spoken of -/
def GN (S : SV) : Prop := ∀ t, t < 8 → ∀ e ∈ (S.ar t).ents, ∃ n, n < 6 ∧ e.hd.name = nmS n
def cntP (S : SV) (t k : Nat) : Nat := ((List.range k).filter (fun n => hasS S t (nmS n))).length
theorem cntP_succ (S : SV) (t k : Nat) : cntP S t (k + 1) = cntP S t k + (if hasS S t (nmS k) then 1 else 0) := by
  unfold cntP
  rw [List.range_succ, List.filter_append, List.length_append]
  congr 1
  cases h : hasS S t (nmS k) <;> simp [h]
theorem hasS_iff {S : SV} {t : Nat} {name : ByteArray} : hasS S t name = true ↔ ∃ e ∈ (S.ar t).ents, e.hd.name = name := by
  unfold hasS
  rcases ho : oldS (S.ar t) name with _ | ⟨k, e⟩
  · have := oldS_no ho
    simp only [Option.isSome_none, Bool.false_eq_true, false_iff]
    rintro ⟨e, he, hn⟩
    exact this e he hn
  · obtain ⟨o1, o2⟩ := oldS_name ho
    simp only [Option.isSome_some, true_iff]
    exact ⟨e, List.mem_of_getElem? o2, o1⟩
def ix (name : ByteArray) : Nat := if name == nmS 0 then 0 else if name == nmS 1 then 1 else if name == nmS 2 then 2 else if name == nmS 3 then 3 else if name == nmS 4 then 4 else 5
theorem ix_nm {n : Nat} (h : n < 6) : ix (nmS n) = n := by
  rcases (show n = 0 ∨ n = 1 ∨ n = 2 ∨ n = 3 ∨ n = 4 ∨ n = 5 by omega) with rfl | rfl | rfl | rfl | rfl | rfl <;> decide
theorem fil_len {α : Type} (p : α → Bool) (l : List α) : (l.filter p).length + (l.filter (fun x => !p x)).length = l.length := by
  induction l with
  | nil => rfl
  | cons x l ih =>
    rw [List.filter_cons, List.filter_cons]
    cases p x <;> simp <;> omega
theorem cntP_all {S : SV} {n m t : Nat} (hg : GA n t m (S.ar t)) (ht : t < 8) (hn : GN S) : cntP S t 6 = (S.ar t).ents.length := by
  have hnn := hn t ht
  have hL : ((S.ar t).ents.map (fun e => ((ix e.hd.name : Nat) : Int))).Nodup := by
    have h1 := hg.nd
    unfold List.Nodup at h1 ⊢
    rw [List.pairwise_map] at h1 ⊢
    refine List.Pairwise.imp_of_mem ?_ h1
    intro a b ha hb hab he
    obtain ⟨p, hp, hpe⟩ := hnn a ha
    obtain ⟨q, hq, hqe⟩ := hnn b hb
    rw [hpe, hqe, ix_nm hp, ix_nm hq] at he
    exact hab (by rw [hpe, hqe, show p = q by omega])
  have h1 := free_cnt 0 6 _ hL (fun x hx => by
    obtain ⟨e, he, rfl⟩ := List.mem_map.1 hx
    obtain ⟨p, hp, hpe⟩ := hnn e he
    rw [hpe, ix_nm hp]
    omega)
  rw [List.length_map] at h1
  have h2 : (List.range' 0 6).filter (fun n : Nat => !((S.ar t).ents.map (fun e => ((ix e.hd.name : Nat) : Int))).contains (n : Int)) = (List.range 6).filter (fun n => !hasS S t (nmS n)) := by
    rw [← List.range_eq_range']
    apply List.filter_congr
    intro n hnm
    have hn6 := List.mem_range.1 hnm
    congr 1
    rw [Bool.eq_iff_iff, List.contains_iff_mem, hasS_iff, List.mem_map]
    constructor
    · rintro ⟨e, he, hq⟩
      obtain ⟨p, hp, hpe⟩ := hnn e he
      rw [hpe, ix_nm hp] at hq
      exact ⟨e, he, by rw [hpe, show p = n by omega]⟩
    · rintro ⟨e, he, hq⟩
      exact ⟨e, he, by rw [hq, ix_nm hn6]⟩
  rw [h2] at h1
  have h3 : ((List.range 6).filter (fun n => hasS S t (nmS n))).length + ((List.range 6).filter (fun n => !hasS S t (nmS n))).length = 6 := by
    have := fil_len (fun n => hasS S t (nmS n)) (List.range 6)
    rw [List.length_range] at this
    omega
  unfold cntP
  omega
/-- what view leaves -/
def ViewP (w : World) (xs : List ByteArray) (e : Ending) (w' : World) : Prop := ∃ (z : Sl) (o : Nat → Nat), e = .returned (.tuple #[z.enc, .bool true]) ∧ Ow strK 9 w' o 2 z xs ∧ (∀ k, k < w.heap.size → o k = 0) ∧ Below w.heap.size w w'
theorem str_size (xs : List Int) : (strOfNums xs).size = xs.length := by
  show ((xs.map fun n => UInt8.ofNat n.toNat).toArray).size = _
  simp
theorem str_M (W : World) (s : ByteArray) : strK.M W 0 (fun _ => False) s [.string s] := rfl
set_option maxRecDepth 100000 in
set_option maxHeartbeats 4000000 in
theorem view_ok (w : World) (own : Nat → Nat) (tg g gs : Nat) (ga : Nat → Nat) (S : SV) (H : SvMem w own tg g gs ga S) {n m : Nat} {D : Nat → ByteArray → List Int} (hg : GS S n m) (hc : CS S D) (hn : 8 ≤ n) (hN : GN S) : Calls Tryz.prog 21 #[pt g] w (ViewP w (vwP S D 8)) := by
  have HGY := Lib.hid (fun (t k : Nat) (ht : t < 8) (hk : k < 6) (hh : hasS S t (nmS k) = true) (W : World) (h : Below w.heap.size w W) => SwR.get_at w own tg g gs ga S H hg hc hn W h t ht (nmS k) (nmS_ok k hk) hh)
  have HGN := Lib.hid (fun (t k : Nat) (ht : t < 8) (hk : k < 6) (hh : oldS (S.ar t) (nmS k) = none) (W : World) (h : Below w.heap.size w W) => get_miss W _ tg g gs ga S (H.below h) hg t ht (nmS k) (nmS_ok k hk) hh)
  have HL := Lib.hid (fun (t : Nat) (ht : t < 8) (W : World) (h : Below w.heap.size w W) => list_at w own tg g gs ga S H hg W h t ht)
  have HCN := Lib.hid (fun (t : Nat) (ht : t < 8) => cntP_all (hg.ar t ht) ht hN)
  have HDL := Lib.hid (fun (t k : Nat) (ht : t < 8) (hh : hasS S t (nmS k) = true) => (show (D t (nmS k)).length ≤ 131072 by
    obtain ⟨e, he, hn⟩ := hasS_iff.1 hh
    have h1 := ((hc t ht).ge e he).size
    rw [hn] at h1
    have h2 := ((hg.ar t ht).ok e he).2.2.2.2.1
    omega))
  have HEL := Lib.hid (fun (t : Nat) (ht : t < 8) => (show (S.ar t).ents.length < 1000000 by have h1 := (hg.ar t ht).len_le; rw [(hg.ar t ht).hds] at h1; have := hg.hn; omega))
  clear H hg hc hN
  go_enter Tryz.func21, Tryz.ntmps21
  go_wp2_with fail
  go_loopw [5, 4, 6, 7, 8, 9, 10, 11] (fun v l _ _ _ _ _ _ wr => ∃ t : Nat, t ≤ 8 ∧ v = .int .i64 ((t : Int) + 1) ∧ ∃ (s : Sl) (o : Nat → Nat), l = .slice s.A s.n s.c ∧ Ow strK 9 wr o 2 s (vwP S D t) ∧ Kp (fun q => q = 2) w (fun _ => 0) wr o) (fun v _ _ _ _ _ _ _ _ => 9 - (intOf v).toNat)
  case atStart => exact ⟨0, by omega, rfl, nilS, fun _ => 0, rfl, Kd.R_nil _ _ _ _ _, Kp.refl _ _ _⟩
  case round =>
    obtain ⟨t, ht, rfl, s, o, rfl, hs, hkp⟩ := hrel
    by_cases hlt : t < 8
    · have dl : decide ((t : Int) + 1 ≤ 8) = true := by simp; omega
      have HS := Lib.hid hs
      have HK := Lib.hid hkp
      clear hs hkp
      go_wp2_with fail
      go_loopw [7, 6, 4, 8, 9] (fun v mn l _ _ wr2 => ∃ k : Nat, k ≤ 6 ∧ v = .int .i64 (k : Int) ∧ mn = .int .i64 (cntP S t k : Int) ∧ ∃ (s : Sl) (o : Nat → Nat), l = .slice s.A s.n s.c ∧ Ow strK 9 wr2 o 2 s (vwP S D t ++ vwR S D t k) ∧ Kp (fun q => q = 2) w (fun _ => 0) wr2 o) (fun v _ _ _ _ _ => 6 - (intOf v).toNat)
      case atStart => exact ⟨0, by omega, rfl, rfl, s, o, rfl, by rw [show vwP S D t ++ vwR S D t 0 = vwP S D t from List.append_nil _]; exact HS.out, HK.out⟩
      case round =>
        clear HS HK
        obtain ⟨k, hk, rfl, rfl, s2, o2, rfl, hs, hkp⟩ := hrel
        have hb := kp_below hkp (by decide)
        have hxl : (vwP S D t ++ vwR S D t k).length < 100 := by rw [List.length_append, vwP_len, vwR_len]; omega
        have hcb : cntP S t k ≤ 6 := by
          unfold cntP
          have := List.length_filter_le (fun n => hasS S t (nmS n)) (List.range k)
          rw [List.length_range] at this
          omega
        by_cases hlk : k < 6
        · have dk : decide ((k : Int) < 6) = true := by simp; omega
          have hk6 : (k : Int) < 6 := by omega
          have HB := Lib.hid hb
          have hnc : ∀ W : World, (W.alloc (.cells #[.string (nmS 0), .string (nmS 1), .string (nmS 2), .string (nmS 3), .string (nmS 4), .string (nmS 5)] 9)).cell? ⟨W.heap.size, k, none⟩ = some (.string (nmS k)) := fun W => names_cell W k hlk
          have HKP := Lib.hid hkp
          have HS := Lib.hid hs
          have hcs := cntP_succ S t k
          have hvs : vwP S D t ++ vwR S D t (k + 1) = vwP S D t ++ vwR S D t k ++ [cellV S D t k] := by rw [vwR_succ, List.append_assoc]
          cases hh : hasS S t (nmS k)
          · rw [hh, if_neg (by decide)] at hcs
            have hcv0 : cellV S D t k = ⟨#[45]⟩ := by unfold cellV; rw [hh]; rfl
            rw [hcv0] at hvs
            have hno : oldS (S.ar t) (nmS k) = none := by unfold hasS at hh; exact Option.not_isSome_iff_eq_none.1 (by rw [hh]; decide)
            have HG := Lib.hid (fun (W : World) (h : Below w.heap.size w W) => HGN.out t k hlt hlk hno W h)
            generalize vwP S D t ++ vwR S D t k = xs at *
            have HV := Lib.hid hvs
            have HC := Lib.hid hcs
            clear hs hkp hb hvs hcs hcv0 hno
            go_wp2_with (first
              | (go_at_call 36; refine (names_ok _).mono ?_; rintro e w3 ⟨rfl, rfl⟩; have hn1 := hnc wr)
              | (go_at_call 32; (with_reducible refine Calls.mono (HG.out _ (HB.out.alloc HB.out.size _)) ?_); rintro e w4 ⟨rfl, z3⟩; have hb4 := (ba (w := wr) (.cells #[.string (nmS 0), .string (nmS 1), .string (nmS 2), .string (nmS 3), .string (nmS 4), .string (nmS 5)] 9)).trans (z3.mono (by simp)); have HS4 := Lib.hid (HS.out.keep (Kp.below (ts := fun _ => False) hb4 0) (fun q => q)); have HK4 := Lib.hid (HKP.out.trans (Kp.below hb4 0)); clear z3 hb4)
              | (at_builtin; refine ow_append strK (W := w4) rfl (.tmp 43) (.tmp 44) 38 9 (.string ⟨#[]⟩) 16 rfl Tryz.underlying38 info9 rfl (by decide) (by decide) s2 xs (⟨#[45]⟩ : ByteArray) [.string (⟨#[45]⟩ : ByteArray)] (tagged wr o2 0) 2 rfl rfl rfl HS4.out (by omega) ?_; intro s1 w5 h5 h6; have HR := Lib.hid (And.intro h5 h6); clear h5 h6; unfold Sl.enc))
            go_roundw
            case rel => exact ⟨k + 1, by omega, by go_num, by rw [HC.out]; rfl, s1, _, rfl, by rw [HV.out]; exact HR.out.1, HK4.out.trans HR.out.2⟩
            case measure => simp [intOf]; omega
          · rw [hh, if_pos rfl] at hcs
            have hcv0 : cellV S D t k = ⟨#[61]⟩ ++ strOfNums (D t (nmS k)) := by unfold cellV; rw [if_pos hh]
            rw [hcv0] at hvs
            have hdl := HDL.out t k hlt hh
            have hds : (strOfNums (D t (nmS k))).size ≤ 131072 := by rw [str_size]; exact hdl
            have HG := Lib.hid (fun (W : World) (h : Below w.heap.size w W) => HGY.out t k hlt hlk hh W h)
            generalize D t (nmS k) = dt at *
            generalize vwP S D t ++ vwR S D t k = xs at *
            have HV := Lib.hid hvs
            have HC := Lib.hid hcs
            clear hs hkp hb hvs hcs hcv0
            go_wp2_with (first
              | (go_at_call 36; refine (names_ok _).mono ?_; rintro e w3 ⟨rfl, rfl⟩; have hn1 := hnc wr)
              | (go_at_call 32; (with_reducible refine Calls.mono (HG.out _ (HB.out.alloc HB.out.size _)) ?_); rintro e w4 ⟨⟨zA, zn, zc⟩, zo, rfl, z1, z2, z3⟩; have hcv := conv_str (w := w4) (c := zc) (ow_len z1).2.2; have hb4 := (ba (w := wr) (.cells #[.string (nmS 0), .string (nmS 1), .string (nmS 2), .string (nmS 3), .string (nmS 4), .string (nmS 5)] 9)).trans (z3.mono (by simp)); have HS4 := Lib.hid (HS.out.keep (Kp.below (ts := fun _ => False) hb4 0) (fun q => q)); have HK4 := Lib.hid (HKP.out.trans (Kp.below hb4 0)); clear z1 z2 z3 hb4; unfold Sl.enc; dsimp only at hcv ⊢)
              | (at_builtin; refine ow_append strK (W := w4) rfl (.tmp 35) (.tmp 39) 38 9 (.string ⟨#[]⟩) 16 rfl Tryz.underlying38 info9 rfl (by decide) (by decide) s2 xs ((⟨#[61]⟩ : ByteArray) ++ strOfNums dt) [.string ((⟨#[61]⟩ : ByteArray) ++ strOfNums dt)] (tagged wr o2 0) 2 rfl rfl rfl HS4.out (by omega) ?_; intro s1 w5 h5 h6; have HR := Lib.hid (And.intro h5 h6); clear h5 h6; unfold Sl.enc))
            go_roundw
            case rel => exact ⟨k + 1, by omega, by go_num, by rw [HC.out]; rfl, s1, _, rfl, by rw [HV.out]; exact HR.out.1, HK4.out.trans HR.out.2⟩
            case measure => simp [intOf]; omega
        · have dk : decide ((k : Int) < 6) = false := by simp; omega
          obtain rfl : k = 6 := by omega
          have hcn := HCN.out t hlt
          have hel := HEL.out t hlt
          have HLL := Lib.hid (HL.out t hlt)
          rw [hcn]
          rw [← vwP_succ] at hs
          have HB := Lib.hid hb
          have HKP := Lib.hid hkp
          have HS := Lib.hid hs
          generalize hee : (S.ar t).ents.length = en at *
          have HEE := Lib.hid hee
          clear hs hkp hb hxl hcb hcn hee
          have hek : ((en : Int) != (en : Int)) = false := by simp
          go_wp2_with (go_at_call 25; (with_reducible refine Calls.mono (HLL.out _ HB.out) ?_); rintro e w5 ⟨⟨zA, zn, zc⟩, zo, l, rfl, z1, z2, z3, z4, z5⟩; obtain rfl : zn = en := ((ow_len z1).1.symm.trans z4.length_eq).trans ((List.length_map _).trans HEE.out); have HZ := Lib.hid z3; clear z1 z2 z3 z4 z5; unfold Sl.enc; dsimp only)
          go_roundw
          case rel => exact ⟨t + 1, by omega, by go_num, s2, _, rfl, HS.out.keep (Kp.below (ts := fun _ => False) HZ.out 0) (fun q => q), HKP.out.trans (Kp.below HZ.out 0)⟩
          case measure => simp [intOf]; omega
    · have dl : decide ((t : Int) + 1 ≤ 8) = false := by simp; omega
      obtain rfl : t = 8 := by omega
      have HE := Lib.hid (show ViewP w (vwP S D 8) (.returned (.tuple #[.slice s.A s.n s.c, .bool true])) wr from ⟨s, o, rfl, hs, fun k hk => (hkp.block k hk (by decide)).1, kp_below hkp (by decide)⟩)
      clear hs hkp
      go_wp2_with fail
      go_ret2
      exact HE.out
end Go.Proofs.YtmofiicjaldmiaaGreatDoor.SwX
namespace Go.Proofs.YtmofiicjaldmiaaGreatDoor.SxA
open Go.RowKit Go.Shelf Go.Proofs.YtmofiicjaldmiaaGreatDoorW.PrintWords Go.Proofs.YtmofiicjaldmiaaGreatDoorW.PrintLast Go.Proofs.YtmofiicjaldmiaaGreatDoor.SvA Go.Proofs.YtmofiicjaldmiaaGreatDoor.SvB Go.Proofs.YtmofiicjaldmiaaGreatDoor.SvC Go.Proofs.YtmofiicjaldmiaaGreatDoor.SvD Go.Proofs.YtmofiicjaldmiaaGreatDoor.SvE Go.Proofs.YtmofiicjaldmiaaGreatDoor.SvF Go.Proofs.YtmofiicjaldmiaaGreatDoor.SvG Go.Proofs.YtmofiicjaldmiaaGreatDoor.SvH Go.Proofs.YtmofiicjaldmiaaGreatDoor.SvI Go.Proofs.YtmofiicjaldmiaaGreatDoor.SvJ Go.Proofs.YtmofiicjaldmiaaGreatDoor.SvK Go.Proofs.YtmofiicjaldmiaaGreatDoor.SvL Go.Proofs.YtmofiicjaldmiaaGreatDoor.SvM Go.Proofs.YtmofiicjaldmiaaGreatDoor.SvN Go.Proofs.YtmofiicjaldmiaaGreatDoor.SvO Go.Proofs.YtmofiicjaldmiaaGreatDoor.SvP Go.Proofs.YtmofiicjaldmiaaGreatDoor.SvQ Go.Proofs.YtmofiicjaldmiaaGreatDoor.SvR Go.Proofs.YtmofiicjaldmiaaGreatDoor.SvS Go.Proofs.YtmofiicjaldmiaaGreatDoor.SvT Go.Proofs.YtmofiicjaldmiaaGreatDoor.SvU Go.Proofs.YtmofiicjaldmiaaGreatDoor.SvV Go.Proofs.YtmofiicjaldmiaaGreatDoor.SvW Go.Proofs.YtmofiicjaldmiaaGreatDoor.SvX Go.Proofs.YtmofiicjaldmiaaGreatDoor.SvY Go.Proofs.YtmofiicjaldmiaaGreatDoor.SvZ Go.Proofs.YtmofiicjaldmiaaGreatDoor.SwA Go.Proofs.YtmofiicjaldmiaaGreatDoor.SwB Go.Proofs.YtmofiicjaldmiaaGreatDoor.SwC Go.Proofs.YtmofiicjaldmiaaGreatDoor.SwD Go.Proofs.YtmofiicjaldmiaaGreatDoor.SwE Go.Proofs.YtmofiicjaldmiaaGreatDoor.SwF Go.Proofs.YtmofiicjaldmiaaGreatDoor.SwG Go.Proofs.YtmofiicjaldmiaaGreatDoor.SwI Go.Proofs.YtmofiicjaldmiaaGreatDoor.SwJ Go.Proofs.YtmofiicjaldmiaaGreatDoor.SwK Go.Proofs.YtmofiicjaldmiaaGreatDoor.SwH Go.Proofs.YtmofiicjaldmiaaGreatDoor.SwL Go.Proofs.YtmofiicjaldmiaaGreatDoor.SwM Go.Proofs.YtmofiicjaldmiaaGreatDoor.SwN Go.Proofs.YtmofiicjaldmiaaGreatDoor.SwO Go.Proofs.YtmofiicjaldmiaaGreatDoor.SwP Go.Proofs.YtmofiicjaldmiaaGreatDoor.SwQ Go.Proofs.YtmofiicjaldmiaaGreatDoor.SwR Go.Proofs.YtmofiicjaldmiaaGreatDoor.SwS Go.Proofs.YtmofiicjaldmiaaGreatDoor.SwT Go.Proofs.YtmofiicjaldmiaaGreatDoor.SwX
set_option linter.unusedVariables false
set_option linter.unusedSimpArgs false
open Go.Lib
/-- a list of strings in memory -/
def SsAt (w : World) (A : Option Addr) (l : List ByteArray) : Prop := ∀ (j : Nat) (x : ByteArray), l[j]? = some x → ∃ zb, A = some ⟨zb, 0, none⟩ ∧ w.cell? ⟨zb, j, none⟩ = some (.string x)
theorem SsAt.below {w w' : World} {A : Option Addr} {l : List ByteArray} (h : SsAt w A l) (hb : Below w.heap.size w w') : SsAt w' A l := fun j x hx => by
  obtain ⟨zb, h1, h2⟩ := h j x hx
  exact ⟨zb, h1, cellOf hb h2⟩
theorem ss_of {w : World} {o : Nat → Nat} {t : Nat} {z : Sl} {l : List ByteArray} (h : Ow strK 9 w o t z l) : SsAt w z.A l := fun j x hx => by
  have hn := (ow_len h).1
  have hj := (List.getElem?_eq_some_iff.1 hx).1
  obtain ⟨zb, hz⟩ := ow_head h (by omega)
  obtain ⟨A, n, c⟩ := z
  injection hz with hA _ _
  subst hA
  obtain ⟨c1, _, _⟩ := ow_cell (enc := Value.string) (h1 := fun _ => rfl) h j x hx
  exact ⟨zb, rfl, c1⟩
theorem toList_inj {a b : ByteArray} (h : a.toList = b.toList) : a = b := by
  rw [ByteArray.toList_eq, ByteArray.toList_eq] at h
  cases a with | mk x => cases b with | mk y =>
  rw [Array.toList_inj] at h
  rw [show x = y from h]
theorem toList_beq (a b : ByteArray) : (a.toList == b.toList) = (a == b) := by
  rw [Bool.eq_iff_iff, ba_beq, beq_iff_eq]
  exact ⟨toList_inj, fun h => by rw [h]⟩
set_option maxRecDepth 100000 in
set_option maxHeartbeats 1000000 in
theorem same_ok (w : World) (A B : Option Addr) (c d : Nat) (xs ys : List ByteArray) (hA : SsAt w A xs) (hB : SsAt w B ys) (hx : xs.length < 1000) (hy : ys.length < 1000) :
    Calls Tryz.prog 33 #[.slice A xs.length c, .slice B ys.length d] w fun e w' => e = .returned (.bool (decide (xs = ys))) ∧ Below w.heap.size w w' := by
  by_cases hl : xs.length = ys.length
  · have dl : ((xs.length : Int) != (ys.length : Int)) = false := by simp; omega
    have HA := Lib.hid hA
    have HB := Lib.hid hB
    have HL := Lib.hid hl
    clear hA hB hl
    go_enter Tryz.func33, Tryz.ntmps33
    go_wp2_with fail
    go_loopw [5] (fun v wr => ∃ k : Nat, k ≤ xs.length ∧ v = .int .i64 (k : Int) ∧ xs.take k = ys.take k ∧ Below w.heap.size w wr) (fun v _ => xs.length - (intOf v).toNat)
    case atStart => exact ⟨0, by omega, rfl, rfl, Below.refl _ _⟩
    case round =>
      obtain ⟨k, hk, rfl, ht, hb⟩ := hrel
      have HT := Lib.hid ht
      clear ht
      by_cases hlt : k < xs.length
      · have dk : decide ((k : Int) < (xs.length : Int)) = true := by simp; omega
        have hk1 : (k : Int) < (xs.length : Int) := by omega
        have hk2 : (k : Int) < (ys.length : Int) := by have := HL.out; omega
        have hk0 : (0 : Int) ≤ (k : Int) := by omega
        obtain ⟨x, hxk⟩ : ∃ x, xs[k]? = some x := ⟨_, List.getElem?_eq_getElem hlt⟩
        obtain ⟨y, hyk⟩ : ∃ y, ys[k]? = some y := ⟨_, List.getElem?_eq_getElem (by omega)⟩
        obtain ⟨zb, hzA, z0⟩ := (HA.out.below hb) k x hxk
        obtain ⟨ub, huA, u0⟩ := (HB.out.below hb) k y hyk
        subst hzA
        subst huA
        have HBD := Lib.hid hb.drew
        have HXY := Lib.hid (And.intro hxk hyk)
        have hcv := toList_beq x y
        clear hxk hyk hb
        go_upto_region 6 with (fail)
        refine start_ (n := 9) (S := fun w' => w'.cell? ⟨zb, k, none⟩ = some (.string x) ∧ w'.cell? ⟨ub, k, none⟩ = some (.string y)) (ds := []) #[false, false, false, false, false, false, false, false, false] (by kernel_rfl) rfl rfl ⟨z0, u0⟩ (fun hHeld => ?_)
        refine pure_ (i := 0) (N := some 17) (v := ?_) (a' := ?_) #[true, false, false, false, false, false, false, false, false] rfl rfl (by kernel_rfl) (fun _ _ _ h => h) (Or.inl ⟨by rfl, ?_⟩) ?_ ?_
        rotate_left
        · intro w'
          go_simp
          with_reducible rfl
        rotate_left
        · simp only [Act.put, List.setIfInBounds_toArray, List.set_cons_zero, List.set_cons_succ, i64_w, i32_w]
          rfl
        refine pure_ (i := 1) (N := some 18) (v := ?_) (a' := ?_) #[true, true, false, false, false, false, false, false, false] rfl rfl (by kernel_rfl) (fun _ _ _ h => h) (Or.inl ⟨by rfl, ?_⟩) ?_ ?_
        rotate_left
        · intro w'
          go_simp
          with_reducible rfl
        rotate_left
        · simp only [Act.put, List.setIfInBounds_toArray, List.set_cons_zero, List.set_cons_succ, i64_w, i32_w]
          rfl
        refine pure_ (i := 2) (N := some 19) (v := ?_) (a' := ?_) #[true, true, true, false, false, false, false, false, false] rfl rfl (by kernel_rfl) (fun _ _ _ h => h) (Or.inl ⟨by rfl, ?_⟩) ?_ ?_
        rotate_left
        · intro w'
          go_simp
          with_reducible rfl
        rotate_left
        · simp only [Act.put, List.setIfInBounds_toArray, List.set_cons_zero, List.set_cons_succ, i64_w, i32_w]
          rfl
        refine take_ (i := 3) (N := some 20) (v := ?_) (a' := ?_) #[true, true, true, true, false, false, false, false, false] rfl rfl (by kernel_rfl) (fun _ _ _ h => h) (Or.inl ⟨by rfl, ?_⟩) hHeld ?_ ?_
        rotate_left
        · intro w' s0
          obtain ⟨q1, q2⟩ := s0
          go_simp
          with_reducible rfl
        rotate_left
        · simp only [Act.put, List.setIfInBounds_toArray, List.set_cons_zero, List.set_cons_succ, i64_w, i32_w]
          rfl
        refine pure_ (i := 4) (N := some 21) (v := ?_) (a' := ?_) #[true, true, true, true, true, false, false, false, false] rfl rfl (by kernel_rfl) (fun _ _ _ h => h) (Or.inl ⟨by rfl, ?_⟩) ?_ ?_
        rotate_left
        · intro w'
          go_simp
          with_reducible rfl
        rotate_left
        · simp only [Act.put, List.setIfInBounds_toArray, List.set_cons_zero, List.set_cons_succ, i64_w, i32_w]
          rfl
        refine pure_ (i := 5) (N := some 22) (v := ?_) (a' := ?_) #[true, true, true, true, true, true, false, false, false] rfl rfl (by kernel_rfl) (fun _ _ _ h => h) (Or.inl ⟨by rfl, ?_⟩) ?_ ?_
        rotate_left
        · intro w'
          go_simp
          with_reducible rfl
        rotate_left
        · simp only [Act.put, List.setIfInBounds_toArray, List.set_cons_zero, List.set_cons_succ, i64_w, i32_w]
          rfl
        refine pure_ (i := 6) (N := some 23) (v := ?_) (a' := ?_) #[true, true, true, true, true, true, true, false, false] rfl rfl (by kernel_rfl) (fun _ _ _ h => h) (Or.inl ⟨by rfl, ?_⟩) ?_ ?_
        rotate_left
        · intro w'
          go_simp
          with_reducible rfl
        rotate_left
        · simp only [Act.put, List.setIfInBounds_toArray, List.set_cons_zero, List.set_cons_succ, i64_w, i32_w]
          rfl
        refine take_ (i := 7) (N := some 24) (v := ?_) (a' := ?_) #[true, true, true, true, true, true, true, true, false] rfl rfl (by kernel_rfl) (fun _ _ _ h => h) (Or.inl ⟨by rfl, ?_⟩) hHeld ?_ ?_
        rotate_left
        · intro w' s0
          obtain ⟨q1, q2⟩ := s0
          go_simp
          with_reducible rfl
        rotate_left
        · simp only [Act.put, List.setIfInBounds_toArray, List.set_cons_zero, List.set_cons_succ, i64_w, i32_w]
          rfl
        refine pure_ (i := 8) (N := some 25) (v := ?_) (a' := ?_) #[true, true, true, true, true, true, true, true, true] rfl rfl (by kernel_rfl) (fun _ _ _ h => h) (Or.inl ⟨by rfl, ?_⟩) ?_ ?_
        rotate_left
        · intro w'
          go_simp
          with_reducible rfl
        rotate_left
        · simp only [Act.put, List.setIfInBounds_toArray, List.set_cons_zero, List.set_cons_succ, i64_w, i32_w]
          rfl
        refine done_ (by kernel_rfl) ?_
        clear hHeld
        by_cases he : x = y
        · have hne : (!x == y) = false := by rw [(ba_beq _ _).2 he]; rfl
          clear hcv
          go_wp2_with fail
          all_goals first | (rename_i h1; exact absurd (hne.symm.trans h1) (by decide)) | skip
          refine ⟨⟨k + 1, by omega, by go_num, ?_, HBD.out⟩, by simp [intOf]; omega⟩
          obtain ⟨a1, a2⟩ := List.getElem?_eq_some_iff.1 HXY.out.1
          obtain ⟨b1, b2⟩ := List.getElem?_eq_some_iff.1 HXY.out.2
          rw [List.take_succ_eq_append_getElem a1, List.take_succ_eq_append_getElem b1, HT.out, a2, b2, he]
        · have hne : (!x == y) = true := by rw [bax he]; rfl
          have hd : decide (xs = ys) = false := decide_eq_false (fun h => he (by have := HXY.out.1; rw [h, HXY.out.2] at this; injection this with this; exact this.symm))
          have HD := Lib.hid hd
          clear hcv hd
          go_wp2_with fail
          all_goals first | (rename_i h1; exact absurd (hne.symm.trans h1) (by decide)) | skip
          go_ret
          exact ⟨ret_bool HD.out.symm, HBD.out⟩
      · have dk : decide ((k : Int) < (xs.length : Int)) = false := by simp; omega
        have hd : decide (xs = ys) = true := decide_eq_true (by
          have h1 := HT.out
          rw [List.take_of_length_le (by omega), List.take_of_length_le (by have := HL.out; omega)] at h1
          exact h1)
        have HD := Lib.hid hd
        clear hd
        go_wp2_with fail
        go_ret
        exact ⟨ret_bool HD.out.symm, hb⟩
  · have dl : ((xs.length : Int) != (ys.length : Int)) = true := by simp; omega
    have hd : decide (xs = ys) = false := decide_eq_false (fun h => hl (by rw [h]))
    rw [hd]
    clear hA hB
    go_enter Tryz.func33, Tryz.ntmps33
    go_wp2_with fail
    go_ret
    exact ⟨rfl, Below.refl _ _⟩
end Go.Proofs.YtmofiicjaldmiaaGreatDoor.SxA
namespace Go.Proofs.YtmofiicjaldmiaaGreatDoor.SxB
open Go.RowKit Go.Shelf Go.Proofs.YtmofiicjaldmiaaGreatDoorW.PrintWords Go.Proofs.YtmofiicjaldmiaaGreatDoorW.PrintLast Go.Proofs.YtmofiicjaldmiaaGreatDoor.SvA Go.Proofs.YtmofiicjaldmiaaGreatDoor.SvB Go.Proofs.YtmofiicjaldmiaaGreatDoor.SvC Go.Proofs.YtmofiicjaldmiaaGreatDoor.SvD Go.Proofs.YtmofiicjaldmiaaGreatDoor.SvE Go.Proofs.YtmofiicjaldmiaaGreatDoor.SvF Go.Proofs.YtmofiicjaldmiaaGreatDoor.SvG Go.Proofs.YtmofiicjaldmiaaGreatDoor.SvH Go.Proofs.YtmofiicjaldmiaaGreatDoor.SvI Go.Proofs.YtmofiicjaldmiaaGreatDoor.SvJ Go.Proofs.YtmofiicjaldmiaaGreatDoor.SvK Go.Proofs.YtmofiicjaldmiaaGreatDoor.SvL Go.Proofs.YtmofiicjaldmiaaGreatDoor.SvM Go.Proofs.YtmofiicjaldmiaaGreatDoor.SvN Go.Proofs.YtmofiicjaldmiaaGreatDoor.SvO Go.Proofs.YtmofiicjaldmiaaGreatDoor.SvP Go.Proofs.YtmofiicjaldmiaaGreatDoor.SvQ Go.Proofs.YtmofiicjaldmiaaGreatDoor.SvR Go.Proofs.YtmofiicjaldmiaaGreatDoor.SvS Go.Proofs.YtmofiicjaldmiaaGreatDoor.SvT Go.Proofs.YtmofiicjaldmiaaGreatDoor.SvU Go.Proofs.YtmofiicjaldmiaaGreatDoor.SvV Go.Proofs.YtmofiicjaldmiaaGreatDoor.SvW Go.Proofs.YtmofiicjaldmiaaGreatDoor.SvX Go.Proofs.YtmofiicjaldmiaaGreatDoor.SvY Go.Proofs.YtmofiicjaldmiaaGreatDoor.SvZ Go.Proofs.YtmofiicjaldmiaaGreatDoor.SwA Go.Proofs.YtmofiicjaldmiaaGreatDoor.SwB Go.Proofs.YtmofiicjaldmiaaGreatDoor.SwC Go.Proofs.YtmofiicjaldmiaaGreatDoor.SwD Go.Proofs.YtmofiicjaldmiaaGreatDoor.SwE Go.Proofs.YtmofiicjaldmiaaGreatDoor.SwF Go.Proofs.YtmofiicjaldmiaaGreatDoor.SwG Go.Proofs.YtmofiicjaldmiaaGreatDoor.SwI Go.Proofs.YtmofiicjaldmiaaGreatDoor.SwJ Go.Proofs.YtmofiicjaldmiaaGreatDoor.SwK Go.Proofs.YtmofiicjaldmiaaGreatDoor.SwH Go.Proofs.YtmofiicjaldmiaaGreatDoor.SwL Go.Proofs.YtmofiicjaldmiaaGreatDoor.SwM Go.Proofs.YtmofiicjaldmiaaGreatDoor.SwN Go.Proofs.YtmofiicjaldmiaaGreatDoor.SwO Go.Proofs.YtmofiicjaldmiaaGreatDoor.SwP Go.Proofs.YtmofiicjaldmiaaGreatDoor.SwQ Go.Proofs.YtmofiicjaldmiaaGreatDoor.SwR Go.Proofs.YtmofiicjaldmiaaGreatDoor.SwS Go.Proofs.YtmofiicjaldmiaaGreatDoor.SwT Go.Proofs.YtmofiicjaldmiaaGreatDoor.SwX Go.Proofs.YtmofiicjaldmiaaGreatDoor.SxA
set_option linter.unusedVariables false
set_option linter.unusedSimpArgs false
open Go.Lib
theorem app_strs {ops : Array Oper} {rest : List Oper} {o : Oper} {a : Act} {Q : Exit → Act → World → Prop} {w0 W : World} (base : Nat) (hgd : o.guard = none) (s x : Operand)
    (ho : o.op = .call { callee := .builtin .append, args := #[s, x], argTypes := #[38, 38] }) (v : Value) (xs ys : List ByteArray) (A : Option Addr) (m c : Nat) (ok : Nat → Prop) (hs : a.eval s = v) (hx : a.eval x = .slice A m c)
    (HO : strK.R 9 W base ok v xs) (HR : strK.C W A m ys) (hfresh : ∀ k, W.heap.size ≤ k → ok k) (HB : Below base w0 W) (hbase : base ≤ W.heap.size) (hl : (xs.length + m) * 16 ≤ 140737488355328)
    (h : ∀ v1 w1, strK.R 9 w1 base ok v1 (xs ++ ys) → Below base w0 w1 → W.grownBy w1 v.ownBlock → (v1.ownBlock = v.ownBlock ∨ ∃ b, v1.ownBlock = some b ∧ W.heap.size ≤ b) → wpList Tryz.prog ops Q rest (a.put o.dst v1) w1) :
    wpList Tryz.prog ops Q (o :: rest) a W :=
  Kd.R_append_rows strK (Rr := strK.K W) (w0 := w0) base hgd s x 38 9 (.string ⟨#[]⟩) 16 ho Tryz.underlying38 info9 rfl (by decide) (by decide) v xs ys A m c ok (fun _ => False) hs hx HO HR (fun _ _ h => h) (fun _ h => h.elim) hfresh HB hbase (by omega) h
/-- a view behind an act that said OK -/
def strA (a : AC) (most : Int) : ByteArray := if a.puts then ⟨#[61]⟩ ++ strOfNums (a.data most) else ⟨#[45]⟩
def aftS (xs : List ByteArray) (a : AC) (most : Int) : List ByteArray := xs.set (6 * a.t0 + a.n0) (strA a most)
/-- what after leaves -/
def StrP (w : World) (xs : List ByteArray) (e : Ending) (w' : World) : Prop := ∃ (z : Sl) (o : Nat → Nat), e = .returned z.enc ∧ Ow strK 9 w' o 2 z xs ∧ (∀ k, k < w.heap.size → o k = 0) ∧ Below w.heap.size w w'
set_option maxRecDepth 100000 in
set_option maxHeartbeats 2000000 in
theorem after_ok (w : World) (A : Option Addr) (c : Nat) (xs : List ByteArray) (hx : strK.C w A xs.length xs) (hl : xs.length = 48) (a : AC) (ha : a.wf) (most : Int) (h1 : 1 ≤ most) (h2 : most ≤ 100000) :
    Calls Tryz.prog 38 #[a.enc, .slice A xs.length c, .int .i64 most] w (StrP w (aftS xs a most)) := by
  have HAT := Lib.hid (fun W => at_ok a ha W)
  have HPU := Lib.hid (fun W => puts_ok a W)
  have HD := Lib.hid (fun W => data_ok a ha most h1 (by omega) W)
  have hti := a.t0_lt.1
  have hni := a.n0_lt.1
  have hds : (strOfNums (a.data most)).size ≤ 131072 := by rw [str_size, AC.data_len]; have := (a.len_lt most (by omega)).1; omega
  have hai : 6 * a.t0 + a.n0 < 48 := by omega
  unfold aftS
  generalize hst : strA a most = st
  have HST := Lib.hid hst
  clear hst
  generalize 6 * a.t0 + a.n0 = ai at *
  generalize hdt : a.data most = dt at *
  have HDT := Lib.hid hdt
  clear hdt
  generalize a.len most = ln at *
  have HX := Lib.hid hx
  have HL := Lib.hid hl
  have hxl : (([] : List ByteArray).length + xs.length) * 16 ≤ 140737488355328 := by rw [hl]; decide
  clear hx hl hti hni
  obtain ⟨k, tn, nn, b⟩ := a
  dsimp only [AC.enc] at *
  have hBX : ∀ W, Below (w.alloc (.cells #[.int .i64 k, .int .i64 tn, .int .i64 nn, .int .i64 b] 33)).heap.size (w.alloc (.cells #[.int .i64 k, .int .i64 tn, .int .i64 nn, .int .i64 b] 33)) W → W.cell? ⟨w.heap.size, 0, none⟩ = some (.int .i64 k) ∧ W.cell? ⟨w.heap.size, 1, none⟩ = some (.int .i64 tn) ∧ W.cell? ⟨w.heap.size, 2, none⟩ = some (.int .i64 nn) ∧ W.cell? ⟨w.heap.size, 3, none⟩ = some (.int .i64 b) := fun W h => ⟨cellOf h (Blk.cell (i := 0) (blkNew rfl) rfl), cellOf h (Blk.cell (i := 1) (blkNew rfl) rfl), cellOf h (Blk.cell (i := 2) (blkNew rfl) rfl), cellOf h (Blk.cell (i := 3) (blkNew rfl) rfl)⟩
  have hB1 := ba (w := w) (.cells #[.int .i64 k, .int .i64 tn, .int .i64 nn, .int .i64 b] 33)
  have hX1 := Kd.C_below HX.out hB1
  go_enter Tryz.func38, Tryz.ntmps38
  go_upto_region 2 with (fail)
  generalize w.alloc (.cells #[.int .i64 k, .int .i64 tn, .int .i64 nn, .int .i64 b] 33) = v1 at *
  have HBX := Lib.hid hBX
  have HB1 := Lib.hid hB1
  have HX1 := Lib.hid hX1
  clear hBX hB1 hX1 HX
  go_upto_region 3 with (at_builtin; refine app_strs (w0 := v1) v1.heap.size rfl _ _ rfl _ [] xs A xs.length c (fun _ => True) rfl rfl (Kd.R_nil _ _ _ _ _) HX1.out (fun _ _ => trivial) (Below.refl _ _) (Nat.le_refl _) hxl ?_; intro u1 w2 h5 h6 _ _; obtain ⟨A2, c2, rfl, _, _⟩ := Kd.R_reads h5; have hO := ow_new (own := fun _ => 0) (s := ⟨A2, xs.length, c2⟩) 2 h5; obtain ⟨gb, hgb⟩ := ow_head hO (by have := HL.out; show 0 < xs.length; omega); injection hgb with hA2 _ _; subst hA2; rw [List.nil_append] at hO; have HO := Lib.hid hO; have HB2 := Lib.hid h6; clear h5 h6 hO)
  have HK2 := Lib.hid (Kp.below (ts := fun q => q = 2) (own := fun _ => 0) HB2.out 2)
  have HBX2 := Lib.hid (HBX.out _ HB2.out)
  obtain ⟨e0, e1, e2, e3⟩ := HBX2.out
  have hai2 : (ai : Int) < (xs.length : Int) := by have := HL.out; omega
  have hai0 : (0 : Int) ≤ (ai : Int) := by omega
  obtain ⟨x0, hx0⟩ : ∃ x, xs[ai]? = some x := ⟨_, List.getElem?_eq_getElem (by omega)⟩
  have HX0 := Lib.hid hx0
  clear hx0
  generalize tagged v1 (fun _ => 0) 2 = o2 at *
  go_upto_region 4 with (go_at_call 28; refine (HAT.out _).mono ?_; rintro e w3 ⟨rfl, hz⟩; have hO3 := HO.out.keep (Kp.below (ts := fun _ => False) hz 0) (fun q => q); obtain ⟨q1, q2, _⟩ := ow_cell (enc := Value.string) (h1 := fun _ => rfl) hO3 ai x0 HX0.out; have HO3 := Lib.hid hO3; have HK3 := Lib.hid (HK2.out.trans (Kp.below hz 0)); clear hO3 hz e0 e1 e2 e3)
  have hP := HO3.out.put ai ⟨#[45]⟩
  have hO4 := hP.1
  have hK4 := HK3.out.trans hP.2
  clear hP HO3 HK3
  generalize w3.setCell ⟨gb, ai, none⟩ (.string ⟨#[45]⟩) = w4 at *
  generalize tagged w2 o2 0 = o4 at *
  have HO4 := Lib.hid hO4
  have HK4 := Lib.hid hK4
  have hb4 := kp_below hK4 (by decide)
  obtain ⟨e0, e1, e2, e3⟩ := HBX.out _ hb4
  clear hO4 hK4
  cases hp : (AC.mk k tn nn b).puts
  · rw [hp] at HPU
    go_wp2_with (go_at_call 27; refine (HPU.out _).mono ?_; rintro e w5 ⟨rfl, hb5⟩; have HB5 := Lib.hid hb5; clear hb5 e0 e1 e2 e3)
    go_ret
    have hk5 := HK4.out.trans (Kp.below (ts := fun q => q = 2) HB5.out 0)
    refine ⟨⟨some ⟨gb, 0, none⟩, xs.length, c2⟩, _, rfl, ?_, fun q hq => (hk5.block q (Nat.lt_of_lt_of_le hq HB1.out.size) (by decide)).1, HB1.out.trans ((kp_below hk5 (by decide)).mono HB1.out.size)⟩
    have hst : st = ⟨#[45]⟩ := by rw [← HST.out]; unfold strA; rw [hp]; rfl
    rw [hst]
    exact HO4.out.keep (Kp.below (ts := fun _ => False) HB5.out 0) (fun q => q)
  · rw [hp] at HPU
    go_upto_region 5 with (go_at_call 27; refine (HPU.out _).mono ?_; rintro e w5 ⟨rfl, hb5⟩)
    have hK5 := HK4.out.trans (Kp.below (ts := fun q => q = 2) hb5 0)
    have hO5 := HO4.out.keep (Kp.below (ts := fun _ => False) hb5 0) (fun q => q)
    have hS0 : (fun w' => w'.cell? ⟨w.heap.size, 0, none⟩ = some (.int .i64 k) ∧ w'.cell? ⟨w.heap.size, 1, none⟩ = some (.int .i64 tn) ∧ w'.cell? ⟨w.heap.size, 2, none⟩ = some (.int .i64 nn) ∧ w'.cell? ⟨w.heap.size, 3, none⟩ = some (.int .i64 b)) w5 := HBX.out _ (kp_below hK5 (by decide))
    clear hb5 e0 e1 e2 e3 HO4 HK4 HPU
    generalize tagged w4 o4 0 = o5 at *
    have HO5 := Lib.hid hO5
    have HK5 := Lib.hid hK5
    clear hO5 hK5
    refine start_ (n := 10) (S := fun w' => w'.cell? ⟨w.heap.size, 0, none⟩ = some (.int .i64 k) ∧ w'.cell? ⟨w.heap.size, 1, none⟩ = some (.int .i64 tn) ∧ w'.cell? ⟨w.heap.size, 2, none⟩ = some (.int .i64 nn) ∧ w'.cell? ⟨w.heap.size, 3, none⟩ = some (.int .i64 b)) (ds := [9]) #[false, false, false, false, false, false, false, false, false, false] (by kernel_rfl) rfl rfl hS0 (fun hHeld => ?_)
    refine pure_ (i := 0) (N := some 17) (v := ?_) (a' := ?_) #[true, false, false, false, false, false, false, false, false, false] rfl rfl (by kernel_rfl) (fun _ _ _ h => h) (Or.inl ⟨by rfl, ?_⟩) ?_ ?_
    rotate_left
    · intro w'
      go_simp
      with_reducible rfl
    rotate_left
    · simp only [Act.put, List.setIfInBounds_toArray, List.set_cons_zero, List.set_cons_succ, i64_w, i32_w]
      rfl
    refine take_ (i := 1) (N := some 18) (v := ?_) (a' := ?_) #[true, true, false, false, false, false, false, false, false, false] rfl rfl (by kernel_rfl) (fun _ _ _ h => h) (Or.inl ⟨by rfl, ?_⟩) hHeld ?_ ?_
    rotate_left
    · intro w' s0
      obtain ⟨q1, q2, q3, q4⟩ := s0
      go_simp
      with_reducible rfl
    rotate_left
    · simp only [Act.put, List.setIfInBounds_toArray, List.set_cons_zero, List.set_cons_succ, i64_w, i32_w]
      rfl
    refine take_ (i := 3) (N := some 20) (v := ?_) (a' := ?_) #[true, true, false, true, false, false, false, false, false, false] rfl rfl (by kernel_rfl) (fun _ _ _ h => h) (Or.inl ⟨by rfl, ?_⟩) hHeld ?_ ?_
    rotate_left
    · intro w' s0
      obtain ⟨q1, q2, q3, q4⟩ := s0
      go_simp
      with_reducible rfl
    rotate_left
    · simp only [Act.put, List.setIfInBounds_toArray, List.set_cons_zero, List.set_cons_succ, i64_w, i32_w]
      rfl
    refine pure_ (i := 4) (N := some 21) (v := ?_) (a' := ?_) #[true, true, false, true, true, false, false, false, false, false] rfl rfl (by kernel_rfl) (fun _ _ _ h => h) (Or.inl ⟨by rfl, ?_⟩) ?_ ?_
    rotate_left
    · intro w'
      go_simp
      with_reducible rfl
    rotate_left
    · simp only [Act.put, List.setIfInBounds_toArray, List.set_cons_zero, List.set_cons_succ, i64_w, i32_w]
      rfl
    refine one_ (i := 2) (N := some 19) #[true, true, true, true, true, false, false, false, false, false] rfl rfl (by kernel_rfl) (by decide) (fun K hK => ?_)
    refine goes_ Tryz.func28 (by kernel_rfl) rfl #[.agg #[.int .i64 k, .int .i64 tn, .int .i64 nn, .int .i64 b]] (by first | rfl | (simp [Act.eval]; done)) rfl rfl (by first | rfl | (simp [Act.eval]; done)) ?_
    refine Calls.mono (HAT.out _) ?_
    rintro e w6 ⟨rfl, hb6⟩
    refine ⟨_, rfl, ?_⟩
    refine hK.out _ _ ⟨cellOf hb6 hHeld.1, cellOf hb6 hHeld.2.1, cellOf hb6 hHeld.2.2.1, cellOf hb6 hHeld.2.2.2⟩ (fun hHeld => ?_)
    clear hK K
    refine norm_ (a' := ?_) ?_ ?_
    rotate_left
    · show Act.put _ (some 19) _ = _
      simp only [Act.put, List.setIfInBounds_toArray, List.set_cons_zero, List.set_cons_succ, i64_w, i32_w]
      rfl
    refine one_ (i := 5) (N := some 22) #[true, true, true, true, true, true, false, false, false, false] rfl rfl (by kernel_rfl) (by decide) (fun K hK => ?_)
    refine goes_ Tryz.func24 (by kernel_rfl) rfl #[.agg #[.int .i64 k, .int .i64 tn, .int .i64 nn, .int .i64 b], .int .i64 most] (by first | rfl | (simp [Act.eval]; done)) rfl rfl (by first | rfl | (simp [Act.eval]; done)) ?_
    refine Calls.mono (HD.out _) ?_
    rintro e w7 ⟨Z, rfl, f1, f2, hb7⟩
    refine ⟨_, rfl, ?_⟩
    refine hK.out _ _ ⟨cellOf hb7 hHeld.1, cellOf hb7 hHeld.2.1, cellOf hb7 hHeld.2.2.1, cellOf hb7 hHeld.2.2.2⟩ (fun hHeld => ?_)
    clear hK K
    refine norm_ (a' := ?_) ?_ ?_
    rotate_left
    · show Act.put _ (some 22) _ = _
      simp only [Act.put, List.setIfInBounds_toArray, List.set_cons_zero, List.set_cons_succ, i64_w, i32_w]
      rfl
    refine one_ (i := 6) (N := some 23) #[true, true, true, true, true, true, true, false, false, false] rfl rfl (by kernel_rfl) (by decide) (fun K hK => ?_)
    have hcv := conv_str (w := w7) (c := ln) f1
    refine value_ (v := .string (strOfNums dt)) (w1 := w7) (by rfl) rfl (by go_simp) ?_
    refine hK.out _ _ hHeld (fun hHeld => ?_)
    clear hK K
    refine norm_ (a' := ?_) ?_ ?_
    rotate_left
    · show Act.put _ (some 23) _ = _
      simp only [Act.put, List.setIfInBounds_toArray, List.set_cons_zero, List.set_cons_succ, i64_w, i32_w]
      rfl
    refine one_ (i := 7) (N := some 24) #[true, true, true, true, true, true, true, true, false, false] rfl rfl (by kernel_rfl) (by decide) (fun K hK => ?_)
    refine value_ (v := .string ((⟨#[61]⟩ : ByteArray) ++ strOfNums dt)) (w1 := w7) (by rfl) rfl (by go_simp; omega) ?_
    refine hK.out _ _ hHeld (fun hHeld => ?_)
    clear hK K
    refine norm_ (a' := ?_) ?_ ?_
    rotate_left
    · show Act.put _ (some 24) _ = _
      simp only [Act.put, List.setIfInBounds_toArray, List.set_cons_zero, List.set_cons_succ, i64_w, i32_w]
      rfl
    refine pure_ (i := 8) (N := some 25) (v := ?_) (a' := ?_) #[true, true, true, true, true, true, true, true, true, false] rfl rfl (by kernel_rfl) (fun _ _ _ h => h) (Or.inl ⟨by rfl, ?_⟩) ?_ ?_
    rotate_left
    · intro w'
      go_simp
      with_reducible rfl
    rotate_left
    · simp only [Act.put, List.setIfInBounds_toArray, List.set_cons_zero, List.set_cons_succ, i64_w, i32_w]
      rfl
    refine last_ (i := 9) (N := none) #[true, true, true, true, true, true, true, true, true, true] rfl rfl (by kernel_rfl) (by decide) (fun K hK => ?_)
    have hb57 : Below w5.heap.size w5 w7 := ((Below.refl _ _).drew.trans hb6).trans (hb7.mono hb6.size)
    have hO7 := HO5.out.keep (Kp.below (ts := fun _ => False) hb57 0) (fun q => q)
    obtain ⟨u1, u2, _⟩ := ow_cell (enc := Value.string) (h1 := fun _ => rfl) hO7 ai ⟨#[45]⟩ (List.getElem?_set_self (by omega))
    refine skip_ (w1 := w7.setCell ⟨gb, ai, none⟩ (.string ((⟨#[61]⟩ : ByteArray) ++ strOfNums dt))) (by rfl) rfl (by go_simp) ?_
    refine hK.out _ _ ?_
    clear hK K
    have hP7 := hO7.put ai ((⟨#[61]⟩ : ByteArray) ++ strOfNums dt)
    have hK7 := (HK5.out.trans (Kp.below (ts := fun q => q = 2) hb57 0)).trans hP7.2
    have hO8 := hP7.1
    rw [List.set_set] at hO8
    clear hP7 hO7 u1 u2 hb57
    generalize w7.setCell ⟨gb, ai, none⟩ (.string ((⟨#[61]⟩ : ByteArray) ++ strOfNums dt)) = w8 at *
    have HO8 := Lib.hid hO8
    have HK8 := Lib.hid hK7
    clear hO8 hK7 hb6 hb7 f1 f2 hcv
    refine done_ (by kernel_rfl) ?_
    go_wp2_with fail
    go_ret
    refine ⟨⟨some ⟨gb, 0, none⟩, xs.length, c2⟩, _, rfl, ?_, fun q hq => (HK8.out.block q (Nat.lt_of_lt_of_le hq HB1.out.size) (by decide)).1, HB1.out.trans ((kp_below HK8.out (by decide)).mono HB1.out.size)⟩
    have hst : st = (⟨#[61]⟩ : ByteArray) ++ strOfNums dt := by rw [← HST.out]; unfold strA; rw [hp, if_pos rfl, HDT.out]
    rw [hst]
    exact HO8.out
end Go.Proofs.YtmofiicjaldmiaaGreatDoor.SxB
namespace Go.Proofs.YtmofiicjaldmiaaGreatDoor.SwY
open Go.RowKit Go.Shelf Go.Proofs.YtmofiicjaldmiaaGreatDoorW.PrintWords Go.Proofs.YtmofiicjaldmiaaGreatDoorW.PrintLast Go.Proofs.YtmofiicjaldmiaaGreatDoor.SvA Go.Proofs.YtmofiicjaldmiaaGreatDoor.SvB Go.Proofs.YtmofiicjaldmiaaGreatDoor.SvC Go.Proofs.YtmofiicjaldmiaaGreatDoor.SvD Go.Proofs.YtmofiicjaldmiaaGreatDoor.SvE Go.Proofs.YtmofiicjaldmiaaGreatDoor.SvF Go.Proofs.YtmofiicjaldmiaaGreatDoor.SvG Go.Proofs.YtmofiicjaldmiaaGreatDoor.SvH Go.Proofs.YtmofiicjaldmiaaGreatDoor.SvI Go.Proofs.YtmofiicjaldmiaaGreatDoor.SvJ Go.Proofs.YtmofiicjaldmiaaGreatDoor.SvK Go.Proofs.YtmofiicjaldmiaaGreatDoor.SvL Go.Proofs.YtmofiicjaldmiaaGreatDoor.SvM Go.Proofs.YtmofiicjaldmiaaGreatDoor.SvN Go.Proofs.YtmofiicjaldmiaaGreatDoor.SvO Go.Proofs.YtmofiicjaldmiaaGreatDoor.SvP Go.Proofs.YtmofiicjaldmiaaGreatDoor.SvQ Go.Proofs.YtmofiicjaldmiaaGreatDoor.SvR Go.Proofs.YtmofiicjaldmiaaGreatDoor.SvS Go.Proofs.YtmofiicjaldmiaaGreatDoor.SvT Go.Proofs.YtmofiicjaldmiaaGreatDoor.SvU Go.Proofs.YtmofiicjaldmiaaGreatDoor.SvV Go.Proofs.YtmofiicjaldmiaaGreatDoor.SvW Go.Proofs.YtmofiicjaldmiaaGreatDoor.SvX Go.Proofs.YtmofiicjaldmiaaGreatDoor.SvY Go.Proofs.YtmofiicjaldmiaaGreatDoor.SvZ Go.Proofs.YtmofiicjaldmiaaGreatDoor.SwA Go.Proofs.YtmofiicjaldmiaaGreatDoor.SwB Go.Proofs.YtmofiicjaldmiaaGreatDoor.SwC Go.Proofs.YtmofiicjaldmiaaGreatDoor.SwD Go.Proofs.YtmofiicjaldmiaaGreatDoor.SwE Go.Proofs.YtmofiicjaldmiaaGreatDoor.SwF Go.Proofs.YtmofiicjaldmiaaGreatDoor.SwG Go.Proofs.YtmofiicjaldmiaaGreatDoor.SwI Go.Proofs.YtmofiicjaldmiaaGreatDoor.SwJ Go.Proofs.YtmofiicjaldmiaaGreatDoor.SwK Go.Proofs.YtmofiicjaldmiaaGreatDoor.SwH Go.Proofs.YtmofiicjaldmiaaGreatDoor.SwL Go.Proofs.YtmofiicjaldmiaaGreatDoor.SwM Go.Proofs.YtmofiicjaldmiaaGreatDoor.SwN Go.Proofs.YtmofiicjaldmiaaGreatDoor.SwO Go.Proofs.YtmofiicjaldmiaaGreatDoor.SwP Go.Proofs.YtmofiicjaldmiaaGreatDoor.SwQ Go.Proofs.YtmofiicjaldmiaaGreatDoor.SwR Go.Proofs.YtmofiicjaldmiaaGreatDoor.SwS Go.Proofs.YtmofiicjaldmiaaGreatDoor.SwT Go.Proofs.YtmofiicjaldmiaaGreatDoor.SwX
set_option linter.unusedVariables false
set_option linter.unusedSimpArgs false
theorem putR_ar (S : SV) (i : Nat) (name : ByteArray) (data : List Int) (j : Nat) (h : j ≠ i) : (putR S i name data).1.ar j = S.ar j := by
  unfold putR
  split
  · dsimp only
    rw [putS_eq, setE_ar, if_neg h]
    rfl
  · rfl
theorem delR_ar (S : SV) (i : Nat) (name : ByteArray) (j : Nat) (h : j ≠ i) : (delR S i name).1.ar j = S.ar j := by
  unfold delR
  rcases oldS (S.ar i) name with _ | ⟨k, e⟩
  · rfl
  · show (delS S i k e).ar j = _
    rw [delS_eq, setE_ar, if_neg h]
    rfl
theorem doS_ar (S : SV) (a : AC) (most : Int) (j : Nat) (h : j ≠ a.t0) : (doS S a most).1.ar j = S.ar j := by
  unfold doS
  split
  · exact putR_ar _ _ _ _ _ h
  · exact delR_ar _ _ _ _ h
/-- an area behind a Put, a Delete -/
def putA (a : AR) (i : Nat) (name : ByteArray) (data : List Int) : AR := if roomS a data.length then { a with ents := oldE (oldS a name) a.ents ++ [newE a ((i : Int) + 1) name (verN (oldS a name)) data] } else a
def delA (a : AR) (name : ByteArray) : AR := match oldS a name with | none => a | some (k, _) => { a with ents := a.ents.eraseIdx k }
theorem putR_at (S : SV) (i : Nat) (name : ByteArray) (data : List Int) : (putR S i name data).1.ar i = putA (S.ar i) i name data ∧ (putR S i name data).2 = if roomS (S.ar i) data.length then 0 else 112 := by
  unfold putR putA
  cases h : roomS (S.ar i) data.length
  · exact ⟨rfl, rfl⟩
  · simp only [if_true]
    rw [putS_eq, setE_ar, if_pos rfl]
    exact ⟨rfl, trivial⟩
theorem delR_at (S : SV) (i : Nat) (name : ByteArray) : (delR S i name).1.ar i = delA (S.ar i) name ∧ (delR S i name).2 = if (oldS (S.ar i) name).isSome then 0 else 111 := by
  unfold delR delA
  rcases oldS (S.ar i) name with _ | ⟨k, e⟩
  · exact ⟨rfl, rfl⟩
  · dsimp only
    rw [delS_eq, setE_ar, if_pos rfl]
    exact ⟨rfl, rfl⟩
theorem doS_same {S T : SV} {a : AC} {most : Int} (h : S.ar a.t0 = T.ar a.t0) : (doS S a most).1.ar a.t0 = (doS T a most).1.ar a.t0 ∧ (doS S a most).2 = (doS T a most).2 := by
  unfold doS
  cases a.puts
  · simp only [Bool.false_eq_true, if_false]
    rw [(delR_at S _ _).1, (delR_at T _ _).1, (delR_at S _ _).2, (delR_at T _ _).2, h]
    exact ⟨rfl, rfl⟩
  · simp only [if_true]
    rw [(putR_at S _ _ _).1, (putR_at T _ _ _).1, (putR_at S _ _ _).2, (putR_at T _ _ _).2, h]
    exact ⟨rfl, rfl⟩
theorem doS_code (S : SV) (a : AC) (most : Int) : (doS S a most).2 = 0 ∨ (doS S a most).2 = 112 ∨ (doS S a most).2 = 111 := by
  unfold doS
  split
  · rw [(putR_at _ _ _ _).2]
    split
    · exact .inl rfl
    · exact .inr (.inl rfl)
  · rw [(delR_at _ _ _).2]
    split
    · exact .inl rfl
    · exact .inr (.inr rfl)
theorem doD_ne (S : SV) (D : Nat → ByteArray → List Int) (a : AC) (most : Int) (j : Nat) (h : j ≠ a.t0) : doD S D a most j = D j := by
  unfold doD
  split
  · unfold putD; rw [if_neg h]
  · rfl
theorem doD_same {S T : SV} {D E : Nat → ByteArray → List Int} {a : AC} {most : Int} (h : S.ar a.t0 = T.ar a.t0) (hd : D a.t0 = E a.t0) : doD S D a most a.t0 = doD T E a most a.t0 := by
  unfold doD
  rw [h]
  split
  · unfold putD; rw [if_pos rfl, if_pos rfl, hd]
  · exact hd
theorem GN.act {S : SV} (h : GN S) (a : AC) (most : Int) : GN (doS S a most).1 := by
  intro t ht e he
  by_cases hj : t = a.t0
  · subst hj
    unfold doS at he
    cases hp : a.puts
    · rw [hp, if_neg (by decide), (delR_at _ _ _).1] at he
      unfold delA at he
      rcases ho : oldS (S.ar a.t0) a.name with _ | ⟨k, e'⟩
      · rw [ho] at he; exact h _ ht e he
      · rw [ho] at he
        exact h _ ht e (List.mem_of_mem_eraseIdx he)
    · rw [hp, if_pos rfl, (putR_at _ _ _ _).1] at he
      unfold putA at he
      split at he
      · dsimp only at he
        rcases List.mem_append.1 he with he | he
        · refine h _ ht e ?_
          generalize oldS (S.ar a.t0) a.name = od at he
          rcases od with _ | ⟨k, e'⟩
          · exact he
          · exact List.mem_of_mem_eraseIdx he
        · simp at he
          subst he
          exact ⟨a.n0, a.n0_lt.1, rfl⟩
      · exact h _ ht e he
  · rw [doS_ar S a most t hj] at he
    exact h t ht e he
theorem GN.start (b : BS) : GN (S0 b) := fun t _ e he => by cases he
theorem cellV_same {S T : SV} {D E : Nat → ByteArray → List Int} {t : Nat} (h : S.ar t = T.ar t) (hd : D t = E t) (n : Nat) : cellV S D t n = cellV T E t n := by
  unfold cellV hasS
  rw [h, hd]
theorem vwP_at (S : SV) (D : Nat → ByteArray → List Int) (k : Nat) : ∀ (t n : Nat), n < 6 → t < k → (vwP S D k)[6 * t + n]? = some (cellV S D t n) := by
  induction k with
  | zero => intro t n _ h; omega
  | succ k ih =>
    intro t n hn ht
    rw [vwP_succ]
    by_cases h : t < k
    · rw [List.getElem?_append_left (by rw [vwP_len]; omega)]
      exact ih t n hn h
    · obtain rfl : t = k := by omega
      rw [List.getElem?_append_right (by rw [vwP_len]; omega), vwP_len, show 6 * t + n - 6 * t = n by omega]
      unfold vwR
      rw [List.getElem?_map, List.getElem?_range hn]
      rfl
/-- an act of another tenant's number -/
def AC.of (a : AC) (t : Int) : AC := ⟨a.kind, t, a.nm, a.bytes⟩
theorem AC.of_t0 (a : AC) {t : Nat} (h : t < 8) : (AC.of a (t : Int)).t0 = t := by
  unfold AC.t0 AC.of pk
  dsimp only
  rw [if_neg (by omega)]
  have : (t : Int) % 8 = t := Int.emod_eq_of_lt (by omega) (by omega)
  rw [this]
  omega
theorem AC.of_wf {a : AC} (h : a.wf) {t : Nat} (ht : t < 8) : (AC.of a (t : Int)).wf := ⟨h.k, ⟨by show _ ≤ (t : Int); omega, by show (t : Int) ≤ _; omega⟩, h.n, h.b⟩
/-- what holds between the two -/
structure ApR (S T : SV) (D E : Nat → ByteArray → List Int) (t : Nat) : Prop where
  ar : S.ar t = T.ar t
  d : D t = E t
theorem ApR.mine {S T : SV} {D E : Nat → ByteArray → List Int} (a : AC) (h : ApR S T D E a.t0) (most : Int) : ApR (doS S a most).1 (doS T a most).1 (doD S D a most) (doD T E a most) a.t0 :=
  ⟨(doS_same h.ar).1, doD_same h.ar h.d⟩
theorem ApR.other {S T : SV} {D E : Nat → ByteArray → List Int} {t : Nat} (h : ApR S T D E t) (a : AC) (most : Int) (ha : t ≠ a.t0) : ApR (doS S a most).1 T (doD S D a most) E t :=
  ⟨by rw [doS_ar S a most t ha]; exact h.ar, by rw [doD_ne S D a most t ha]; exact h.d⟩
end Go.Proofs.YtmofiicjaldmiaaGreatDoor.SwY
namespace Go.Proofs.YtmofiicjaldmiaaGreatDoor.SwV
open Go.RowKit Go.Shelf Go.Proofs.YtmofiicjaldmiaaGreatDoorW.PrintWords Go.Proofs.YtmofiicjaldmiaaGreatDoorW.PrintLast Go.Proofs.YtmofiicjaldmiaaGreatDoor.SvA Go.Proofs.YtmofiicjaldmiaaGreatDoor.SvB Go.Proofs.YtmofiicjaldmiaaGreatDoor.SvC Go.Proofs.YtmofiicjaldmiaaGreatDoor.SvD Go.Proofs.YtmofiicjaldmiaaGreatDoor.SvE Go.Proofs.YtmofiicjaldmiaaGreatDoor.SvF Go.Proofs.YtmofiicjaldmiaaGreatDoor.SvG Go.Proofs.YtmofiicjaldmiaaGreatDoor.SvH Go.Proofs.YtmofiicjaldmiaaGreatDoor.SvI Go.Proofs.YtmofiicjaldmiaaGreatDoor.SvJ Go.Proofs.YtmofiicjaldmiaaGreatDoor.SvK Go.Proofs.YtmofiicjaldmiaaGreatDoor.SvL Go.Proofs.YtmofiicjaldmiaaGreatDoor.SvM Go.Proofs.YtmofiicjaldmiaaGreatDoor.SvN Go.Proofs.YtmofiicjaldmiaaGreatDoor.SvO Go.Proofs.YtmofiicjaldmiaaGreatDoor.SvP Go.Proofs.YtmofiicjaldmiaaGreatDoor.SvQ Go.Proofs.YtmofiicjaldmiaaGreatDoor.SvR Go.Proofs.YtmofiicjaldmiaaGreatDoor.SvS Go.Proofs.YtmofiicjaldmiaaGreatDoor.SvT Go.Proofs.YtmofiicjaldmiaaGreatDoor.SvU Go.Proofs.YtmofiicjaldmiaaGreatDoor.SvV Go.Proofs.YtmofiicjaldmiaaGreatDoor.SvW Go.Proofs.YtmofiicjaldmiaaGreatDoor.SvX Go.Proofs.YtmofiicjaldmiaaGreatDoor.SvY Go.Proofs.YtmofiicjaldmiaaGreatDoor.SvZ Go.Proofs.YtmofiicjaldmiaaGreatDoor.SwA Go.Proofs.YtmofiicjaldmiaaGreatDoor.SwB Go.Proofs.YtmofiicjaldmiaaGreatDoor.SwC Go.Proofs.YtmofiicjaldmiaaGreatDoor.SwD Go.Proofs.YtmofiicjaldmiaaGreatDoor.SwE Go.Proofs.YtmofiicjaldmiaaGreatDoor.SwF Go.Proofs.YtmofiicjaldmiaaGreatDoor.SwG Go.Proofs.YtmofiicjaldmiaaGreatDoor.SwI Go.Proofs.YtmofiicjaldmiaaGreatDoor.SwJ Go.Proofs.YtmofiicjaldmiaaGreatDoor.SwK Go.Proofs.YtmofiicjaldmiaaGreatDoor.SwH Go.Proofs.YtmofiicjaldmiaaGreatDoor.SwL Go.Proofs.YtmofiicjaldmiaaGreatDoor.SwM Go.Proofs.YtmofiicjaldmiaaGreatDoor.SwN Go.Proofs.YtmofiicjaldmiaaGreatDoor.SwO Go.Proofs.YtmofiicjaldmiaaGreatDoor.SwP Go.Proofs.YtmofiicjaldmiaaGreatDoor.SwQ Go.Proofs.YtmofiicjaldmiaaGreatDoor.SwR Go.Proofs.YtmofiicjaldmiaaGreatDoor.SwS Go.Proofs.YtmofiicjaldmiaaGreatDoor.SwT
set_option linter.unusedVariables false
set_option linter.unusedSimpArgs false
open Go.Lib Go.Sort
def verE (es : List EN) (name : ByteArray) : Int := match es.find? (fun e => e.hd.name == name) with | some e => e.hd.ver | none => 0
theorem bax {a b : ByteArray} (h : a ≠ b) : (a == b) = false := by
  rw [Bool.eq_false_iff]
  exact fun q => h ((ba_beq _ _).1 q)
theorem bay (a : ByteArray) : (a == a) = true := (ba_beq _ _).2 rfl
theorem find_none {es : List EN} {name : ByteArray} (h : ∀ e ∈ es, e.hd.name ≠ name) : es.find? (fun e => e.hd.name == name) = none := by
  rw [List.find?_eq_none]
  intro e he
  rw [bax (h e he)]
  decide
theorem verE_none {es : List EN} {name : ByteArray} (h : ∀ e ∈ es, e.hd.name ≠ name) : verE es name = 0 := by unfold verE; rw [find_none h]
theorem verE_mem : ∀ {es : List EN} {e : EN}, (es.map (·.hd.name)).Nodup → e ∈ es → verE es e.hd.name = e.hd.ver := by
  intro es
  induction es with
  | nil => intro e _ he; cases he
  | cons x es ih =>
    intro e hn he
    rw [List.map_cons, List.nodup_cons] at hn
    unfold verE
    rw [List.find?_cons]
    rcases List.mem_cons.1 he with he | he
    · subst he
      rw [bay]
    · have hne : x.hd.name ≠ e.hd.name := fun q => hn.1 (by rw [q]; exact List.mem_map.2 ⟨e, he, rfl⟩)
      rw [bax hne]
      exact ih hn.2 he
theorem verE_snoc (es : List EN) (e : EN) (name : ByteArray) (h : e.hd.name ≠ name) : verE (es ++ [e]) name = verE es name := by
  unfold verE
  rw [List.find?_append]
  have : [e].find? (fun e => e.hd.name == name) = none := find_none (fun x hx => by simp at hx; subst hx; exact h)
  rw [this, Option.or_none]
theorem find_erase : ∀ {es : List EN} {k : Nat} {e : EN} {name : ByteArray}, es[k]? = some e → e.hd.name ≠ name → (es.eraseIdx k).find? (fun e => e.hd.name == name) = es.find? (fun e => e.hd.name == name) := by
  intro es
  induction es with
  | nil => intro k e name h _; simp at h
  | cons x es ih =>
    intro k e name h hne
    cases k with
    | zero =>
      simp at h
      subst h
      rw [List.eraseIdx_cons_zero, List.find?_cons, bax hne]
    | succ k =>
      rw [List.eraseIdx_cons_succ, List.find?_cons, List.find?_cons]
      rw [ih (by simpa using h) hne]
theorem verE_erase {es : List EN} {k : Nat} {e : EN} {name : ByteArray} (h : es[k]? = some e) (hne : e.hd.name ≠ name) : verE (es.eraseIdx k) name = verE es name := by
  unfold verE
  rw [find_erase h hne]
/-- what the versions are behind an act -/
theorem ver_put {S : SV} {n m i : Nat} (hg : GS S n m) (hi : i < 8) (name : ByteArray) (data : List Int) (hr : roomS (S.ar i) data.length = true) (j : Nat) (x : ByteArray) :
    verE ((putR S i name data).1.ar j).ents x = if j = i ∧ x = name then verE (S.ar i).ents name + 1 else verE (S.ar j).ents x := by
  have H := hg.ar i hi
  unfold putR
  rw [if_pos hr]
  dsimp only
  by_cases hj : j = i
  · subst hj
    rw [put_ents]
    generalize hE : newE (S.ar j) ((j : Int) + 1) name (verN (oldS (S.ar j) name)) data = E
    have E1 : E.hd.name = name := by rw [← hE]; rfl
    have E2 : E.hd.ver = verN (oldS (S.ar j) name) := by rw [← hE]; rfl
    by_cases hx : x = name
    · rw [if_pos ⟨rfl, hx⟩, hx]
      have hno : ∀ e ∈ oldE (oldS (S.ar j) name) (S.ar j).ents, e.hd.name ≠ name := by
        rcases ho : oldS (S.ar j) name with _ | ⟨k, y⟩
        · exact oldS_no ho
        · obtain ⟨o1, o2⟩ := oldS_name ho
          have := erase_name (f := fun e : EN => e.hd.name) H.nd o2
          rw [← o1]
          exact this
      have h1 : verE (oldE (oldS (S.ar j) name) (S.ar j).ents ++ [E]) name = E.hd.ver := by
        unfold verE
        rw [List.find?_append, find_none hno, Option.none_or, List.find?_cons, E1, bay]
      rw [h1, E2]
      rcases ho : oldS (S.ar j) name with _ | ⟨k, y⟩
      · rw [verE_none (oldS_no ho)]; rfl
      · obtain ⟨o1, o2⟩ := oldS_name ho
        have := verE_mem H.nd (List.mem_of_getElem? o2)
        rw [o1] at this
        rw [this]
        rfl
    · rw [if_neg (fun q => hx q.2), verE_snoc _ _ _ (by rw [E1]; exact fun q => hx q.symm)]
      rcases ho : oldS (S.ar j) name with _ | ⟨k, y⟩
      · rfl
      · obtain ⟨o1, o2⟩ := oldS_name ho
        exact verE_erase o2 (by rw [o1]; exact fun q => hx q.symm)
  · rw [if_neg (fun q => hj q.1), putS_eq, setE_ar, if_neg hj]
    rfl
theorem ver_del {S : SV} {n m i : Nat} (hg : GS S n m) (hi : i < 8) (name : ByteArray) (j : Nat) (x : ByteArray) (h0 : (delR S i name).2 = 0) :
    verE ((delR S i name).1.ar j).ents x = if j = i ∧ x = name then 0 else verE (S.ar j).ents x := by
  have H := hg.ar i hi
  unfold delR at h0 ⊢
  rcases ho : oldS (S.ar i) name with _ | ⟨k, y⟩
  · rw [ho] at h0; cases h0
  · obtain ⟨o1, o2⟩ := oldS_name ho
    dsimp only
    rw [delS_eq, setE_ar]
    by_cases hj : j = i
    · subst hj
      rw [if_pos rfl]
      dsimp only
      by_cases hx : x = name
      · rw [if_pos ⟨rfl, hx⟩, hx]
        refine verE_none (fun e he => ?_)
        have := erase_name (f := fun e : EN => e.hd.name) H.nd o2 e he
        rw [← o1]
        exact this
      · rw [if_neg (fun q => hx q.2)]
        exact verE_erase o2 (by rw [o1]; exact fun q => hx q.symm)
    · rw [if_neg hj, if_neg (fun q => hj q.1)]
      rfl
theorem delR_no {S : SV} {i : Nat} {name : ByteArray} (h : (delR S i name).2 ≠ 0) : (delR S i name).1 = S ∧ (delR S i name).2 = 111 := by
  unfold delR at h ⊢
  rcases ho : oldS (S.ar i) name with _ | ⟨k, y⟩
  · exact ⟨rfl, rfl⟩
  · rw [ho] at h; exact absurd rfl h
/-- the versions, by a table of 48 -/
def Cnt (S : SV) (cs : List Int) : Prop := cs.length = 48 ∧ ∀ t n, t < 8 → n < 6 → cs[6 * t + n]? = some (verE (S.ar t).ents (nmS n))
theorem nmS_inj {a b : Nat} (ha : a < 6) (hb : b < 6) (h : nmS a = nmS b) : a = b := by
  rcases (show a = 0 ∨ a = 1 ∨ a = 2 ∨ a = 3 ∨ a = 4 ∨ a = 5 by omega) with rfl | rfl | rfl | rfl | rfl | rfl <;> rcases (show b = 0 ∨ b = 1 ∨ b = 2 ∨ b = 3 ∨ b = 4 ∨ b = 5 by omega) with rfl | rfl | rfl | rfl | rfl | rfl <;> first | rfl | (revert h; decide)
/-- what the table is behind an act that says r -/
def cntS (cs : List Int) (a : AC) (r : Int) : List Int := if r = 0 then (if a.puts then cs.set (6 * a.t0 + a.n0) ((cs[6 * a.t0 + a.n0]?).getD 0 + 1) else cs.set (6 * a.t0 + a.n0) 0) else cs
theorem Cnt.act {S : SV} {n m : Nat} (hg : GS S n m) {cs : List Int} (h : Cnt S cs) (a : AC) (most : Int) (hm : 0 < most) : Cnt (doS S a most).1 (cntS cs a (doS S a most).2) := by
  have ht := a.t0_lt.1
  have hn := a.n0_lt.1
  have hset : ∀ v (t n : Nat), t < 8 → n < 6 → (cs.set (6 * a.t0 + a.n0) v)[6 * t + n]? = if t = a.t0 ∧ n = a.n0 then some v else cs[6 * t + n]? := by
    intro v t n h1 h2
    by_cases he : t = a.t0 ∧ n = a.n0
    · rw [if_pos he, he.1, he.2, List.getElem?_set_self (by rw [h.1]; omega)]
    · rw [if_neg he, List.getElem?_set_ne (by omega)]
  unfold doS cntS
  cases hp : a.puts
  · simp only [Bool.false_eq_true, if_false]
    by_cases h0 : (delR S a.t0 a.name).2 = 0
    · rw [if_pos h0]
      refine ⟨by rw [List.length_set]; exact h.1, fun t k h1 h2 => ?_⟩
      rw [hset _ t k h1 h2, ver_del hg ht a.name t (nmS k) h0]
      by_cases he : t = a.t0 ∧ k = a.n0
      · rw [if_pos he, if_pos ⟨he.1, by rw [he.2]; rfl⟩]
      · rw [if_neg he, if_neg (fun q => he ⟨q.1, nmS_inj h2 hn q.2⟩)]
        exact h.2 t k h1 h2
    · rw [if_neg h0, (delR_no h0).1]
      exact h
  · simp only [if_true]
    cases hr : roomS (S.ar a.t0) (a.data most).length
    · have e : putR S a.t0 a.name (a.data most) = (S, 112) := by unfold putR; rw [hr]; rfl
      rw [e, if_neg (show ¬ ((112 : Int) = 0) by decide)]
      exact h
    · have e : (putR S a.t0 a.name (a.data most)).2 = 0 := by unfold putR; rw [hr]; rfl
      rw [if_pos e]
      refine ⟨by rw [List.length_set]; exact h.1, fun t k h1 h2 => ?_⟩
      rw [hset _ t k h1 h2, ver_put hg ht a.name (a.data most) hr t (nmS k)]
      by_cases he : t = a.t0 ∧ k = a.n0
      · rw [if_pos he, if_pos ⟨he.1, by rw [he.2]; rfl⟩, h.2 a.t0 a.n0 ht hn]
        rfl
      · rw [if_neg he, if_neg (fun q => he ⟨q.1, nmS_inj h2 hn q.2⟩)]
        exact h.2 t k h1 h2
/-! List -/
def fndS (l : List IN) (name : ByteArray) : Int := l.foldl (fun f x => if x.name == name then x.ver else f) 0
theorem fndS_snoc (l : List IN) (x : IN) (name : ByteArray) : fndS (l ++ [x]) name = if x.name == name then x.ver else fndS l name := by simp [fndS]
theorem fndS_eq (name : ByteArray) : ∀ (l : List IN) (f : Int), (l.map (·.name)).Nodup → (∀ x ∈ l, x.name = name → l.foldl (fun f x => if x.name == name then x.ver else f) f = x.ver) ∧ ((∀ x ∈ l, x.name ≠ name) → l.foldl (fun f x => if x.name == name then x.ver else f) f = f) := by
  intro l
  induction l with
  | nil => intro f _; exact ⟨fun x hx => (by cases hx), fun _ => rfl⟩
  | cons y l ih =>
    intro f hn
    rw [List.map_cons, List.nodup_cons] at hn
    refine ⟨fun x hx hxn => ?_, fun h => ?_⟩
    · rw [List.foldl_cons]
      rcases List.mem_cons.1 hx with hx | hx
      · subst hx
        rw [hxn, bay, if_pos rfl]
        exact (ih _ hn.2).2 (fun z hz q => hn.1 (by rw [hxn, ← q]; exact List.mem_map.2 ⟨z, hz, rfl⟩))
      · exact (ih _ hn.2).1 x hx hxn
    · rw [List.foldl_cons, bax (h y List.mem_cons_self)]
      exact (ih _ hn.2).2 (fun z hz => h z (List.mem_cons_of_mem _ hz))
theorem fnd_ver {es : List EN} {l : List IN} (hn : (es.map (·.hd.name)).Nodup) (hp : l.Perm (es.map infoS)) (name : ByteArray) : fndS l name = verE es name := by
  have hnl : (l.map (·.name)).Nodup := by
    have h1 := hp.map (·.name)
    rw [List.map_map] at h1
    exact (h1.nodup_iff).2 hn
  by_cases h : ∃ e ∈ es, e.hd.name = name
  · obtain ⟨e, he, hen⟩ := h
    have h1 : infoS e ∈ l := hp.mem_iff.2 (List.mem_map.2 ⟨e, he, rfl⟩)
    have h2 := (fndS_eq name l 0 hnl).1 _ h1 hen
    have h3 := verE_mem hn he
    rw [hen] at h3
    rw [h3]
    exact h2
  · have h1 : ∀ e ∈ es, e.hd.name ≠ name := fun e he q => h ⟨e, he, q⟩
    rw [verE_none h1]
    refine (fndS_eq name l 0 hnl).2 (fun x hx => ?_)
    obtain ⟨e, he, rfl⟩ := List.mem_map.1 (hp.mem_iff.1 hx)
    exact h1 e he
theorem toList_inj {a b : ByteArray} (h : a.toList = b.toList) : a = b := by
  rw [ByteArray.toList_eq, ByteArray.toList_eq] at h
  cases a with | mk x => cases b with | mk y =>
  rw [Array.toList_inj] at h
  rw [show x = y from h]
theorem less_next {es : List EN} {l : List IN} (hn : (es.map (·.hd.name)).Nodup) (hp : l.Perm (es.map infoS)) (hs : l.Pairwise (fun x y => ltOf cfS y x = false)) {k : Nat} {x y : IN} (hx : l[k]? = some x) (hy : l[k + 1]? = some y) : Op.bytesLess x.name.toList y.name.toList = true := by
  have hnl : (l.map (·.name)).Nodup := by
    have h1 := hp.map (·.name)
    rw [List.map_map] at h1
    exact (h1.nodup_iff).2 hn
  obtain ⟨x1, x2⟩ := List.getElem?_eq_some_iff.1 hx
  obtain ⟨y1, y2⟩ := List.getElem?_eq_some_iff.1 hy
  have h1 := List.pairwise_iff_getElem.1 hs k (k + 1) x1 y1 (by omega)
  have h2 := List.pairwise_iff_getElem.1 hnl k (k + 1) (by simpa using x1) (by simpa using y1) (by omega)
  rw [x2, y2, ltS_eq] at h1
  simp only [List.getElem_map, x2, y2] at h2
  rw [bytesLess_eq]
  unfold ltStr at h1
  have h3 := of_decide_eq_false h1
  rw [decide_eq_true_eq]
  rcases Decidable.em (x.name.toList < y.name.toList) with h4 | h4
  · exact h4
  · exact absurd (toList_inj (List.le_antisymm (List.not_lt.1 h3) (List.not_lt.1 h4))) h2
end Go.Proofs.YtmofiicjaldmiaaGreatDoor.SwV
namespace Go.Proofs.YtmofiicjaldmiaaGreatDoor.SxC
open Go.RowKit Go.Shelf Go.Proofs.YtmofiicjaldmiaaGreatDoorW.PrintWords Go.Proofs.YtmofiicjaldmiaaGreatDoorW.PrintLast Go.Proofs.YtmofiicjaldmiaaGreatDoor.SvA Go.Proofs.YtmofiicjaldmiaaGreatDoor.SvB Go.Proofs.YtmofiicjaldmiaaGreatDoor.SvC Go.Proofs.YtmofiicjaldmiaaGreatDoor.SvD Go.Proofs.YtmofiicjaldmiaaGreatDoor.SvE Go.Proofs.YtmofiicjaldmiaaGreatDoor.SvF Go.Proofs.YtmofiicjaldmiaaGreatDoor.SvG Go.Proofs.YtmofiicjaldmiaaGreatDoor.SvH Go.Proofs.YtmofiicjaldmiaaGreatDoor.SvI Go.Proofs.YtmofiicjaldmiaaGreatDoor.SvJ Go.Proofs.YtmofiicjaldmiaaGreatDoor.SvK Go.Proofs.YtmofiicjaldmiaaGreatDoor.SvL Go.Proofs.YtmofiicjaldmiaaGreatDoor.SvM Go.Proofs.YtmofiicjaldmiaaGreatDoor.SvN Go.Proofs.YtmofiicjaldmiaaGreatDoor.SvO Go.Proofs.YtmofiicjaldmiaaGreatDoor.SvP Go.Proofs.YtmofiicjaldmiaaGreatDoor.SvQ Go.Proofs.YtmofiicjaldmiaaGreatDoor.SvR Go.Proofs.YtmofiicjaldmiaaGreatDoor.SvS Go.Proofs.YtmofiicjaldmiaaGreatDoor.SvT Go.Proofs.YtmofiicjaldmiaaGreatDoor.SvU Go.Proofs.YtmofiicjaldmiaaGreatDoor.SvV Go.Proofs.YtmofiicjaldmiaaGreatDoor.SvW Go.Proofs.YtmofiicjaldmiaaGreatDoor.SvX Go.Proofs.YtmofiicjaldmiaaGreatDoor.SvY Go.Proofs.YtmofiicjaldmiaaGreatDoor.SvZ Go.Proofs.YtmofiicjaldmiaaGreatDoor.SwA Go.Proofs.YtmofiicjaldmiaaGreatDoor.SwB Go.Proofs.YtmofiicjaldmiaaGreatDoor.SwC Go.Proofs.YtmofiicjaldmiaaGreatDoor.SwD Go.Proofs.YtmofiicjaldmiaaGreatDoor.SwE Go.Proofs.YtmofiicjaldmiaaGreatDoor.SwF Go.Proofs.YtmofiicjaldmiaaGreatDoor.SwG Go.Proofs.YtmofiicjaldmiaaGreatDoor.SwI Go.Proofs.YtmofiicjaldmiaaGreatDoor.SwJ Go.Proofs.YtmofiicjaldmiaaGreatDoor.SwK Go.Proofs.YtmofiicjaldmiaaGreatDoor.SwH Go.Proofs.YtmofiicjaldmiaaGreatDoor.SwL Go.Proofs.YtmofiicjaldmiaaGreatDoor.SwM Go.Proofs.YtmofiicjaldmiaaGreatDoor.SwN Go.Proofs.YtmofiicjaldmiaaGreatDoor.SwO Go.Proofs.YtmofiicjaldmiaaGreatDoor.SwP Go.Proofs.YtmofiicjaldmiaaGreatDoor.SwQ Go.Proofs.YtmofiicjaldmiaaGreatDoor.SwR Go.Proofs.YtmofiicjaldmiaaGreatDoor.SwS Go.Proofs.YtmofiicjaldmiaaGreatDoor.SwT Go.Proofs.YtmofiicjaldmiaaGreatDoor.SwX Go.Proofs.YtmofiicjaldmiaaGreatDoor.SxA Go.Proofs.YtmofiicjaldmiaaGreatDoor.SxB Go.Proofs.YtmofiicjaldmiaaGreatDoor.SwY Go.Proofs.YtmofiicjaldmiaaGreatDoor.SwV
set_option linter.unusedVariables false
set_option linter.unusedSimpArgs false
open Go.Lib
theorem hasS_put {S : SV} {i : Nat} {name : ByteArray} {data : List Int} (hr : roomS (S.ar i) data.length = true) (j : Nat) (x : ByteArray) : hasS (putR S i name data).1 j x = if j = i ∧ x = name then true else hasS S j x := by
  by_cases hj : j = i
  · subst hj
    by_cases hx : x = name
    · subst hx
      rw [if_pos ⟨rfl, rfl⟩, hasS_iff, (putR_at _ _ _ _).1]
      unfold putA
      rw [if_pos hr]
      exact ⟨_, List.mem_append_right _ (List.mem_singleton.2 rfl), rfl⟩
    · rw [if_neg (fun q => hx q.2), Bool.eq_iff_iff, hasS_iff, hasS_iff, (putR_at _ _ _ _).1]
      unfold putA
      rw [if_pos hr]
      dsimp only
      constructor
      · rintro ⟨e, he, hn⟩
        rcases List.mem_append.1 he with he | he
        · rcases ho : oldS (S.ar j) name with _ | ⟨k, y⟩
          · rw [ho] at he
            exact ⟨e, he, hn⟩
          · rw [ho] at he
            exact ⟨e, List.mem_of_mem_eraseIdx he, hn⟩
        · rw [List.mem_singleton] at he
          subst he
          exact absurd hn.symm hx
      · rintro ⟨e, he, hn⟩
        refine ⟨e, List.mem_append_left _ ?_, hn⟩
        rcases ho : oldS (S.ar j) name with _ | ⟨k, y⟩
        · exact he
        · obtain ⟨o1, o2⟩ := oldS_name ho
          rcases mem_erase o2 he with h | h
          · exact h
          · subst h
            exact absurd (hn.symm.trans o1) hx
  · rw [if_neg (fun q => hj q.1)]
    unfold hasS
    rw [putR_ar _ _ _ _ _ hj]
theorem hasS_del {S : SV} {n m i : Nat} (hg : GS S n m) (hi : i < 8) {name : ByteArray} (h0 : (delR S i name).2 = 0) (j : Nat) (x : ByteArray) : hasS (delR S i name).1 j x = if j = i ∧ x = name then false else hasS S j x := by
  have H := hg.ar i hi
  by_cases hj : j = i
  · subst hj
    rw [(delR_at _ _ _).2] at h0
    rcases ho : oldS (S.ar j) name with _ | ⟨k, y⟩
    · rw [ho] at h0
      exact absurd h0 (by decide)
    · obtain ⟨o1, o2⟩ := oldS_name ho
      have hD : (delR S j name).1.ar j = { (S.ar j) with ents := (S.ar j).ents.eraseIdx k } := by rw [(delR_at _ _ _).1]; unfold delA; rw [ho]
      by_cases hx : x = name
      · rw [if_pos ⟨rfl, hx⟩, Bool.eq_false_iff]
        intro q
        obtain ⟨e, he, hn⟩ := hasS_iff.1 q
        rw [hD] at he
        have := erase_name (f := fun e : EN => e.hd.name) H.nd o2 e he
        exact this (by rw [hn, hx, o1])
      · rw [if_neg (fun q => hx q.2), Bool.eq_iff_iff, hasS_iff, hasS_iff, hD]
        dsimp only
        constructor
        · rintro ⟨e, he, hn⟩
          exact ⟨e, List.mem_of_mem_eraseIdx he, hn⟩
        · rintro ⟨e, he, hn⟩
          refine ⟨e, ?_, hn⟩
          rcases mem_erase o2 he with h | h
          · exact h
          · subst h
            exact absurd (hn.symm.trans o1) hx
  · rw [if_neg (fun q => hj q.1)]
    unfold hasS
    rw [delR_ar _ _ _ _ hj]
theorem vw_ext {S : SV} {D : Nat → ByteArray → List Int} {ys : List ByteArray} (hl : ys.length = 48) (h : ∀ t n, t < 8 → n < 6 → ys[6 * t + n]? = some (cellV S D t n)) : vwP S D 8 = ys := by
  apply List.ext_getElem?
  intro i
  by_cases hi : i < 48
  · have h1 := h (i / 6) (i % 6) (by omega) (by omega)
    have h2 := vwP_at S D 8 (i / 6) (i % 6) (by omega) (by omega)
    rw [show 6 * (i / 6) + i % 6 = i by omega] at h1 h2
    rw [h1, h2]
  · rw [List.getElem?_eq_none (by rw [vwP_len]; omega), List.getElem?_eq_none (by omega)]
theorem act_room {S : SV} {a : AC} {most : Int} (hp : a.puts = true) (h0 : (doS S a most).2 = 0) : roomS (S.ar a.t0) (a.data most).length = true := by
  rw [doS_put hp] at h0
  rw [AC.data_len]
  cases h : roomS (S.ar a.t0) (a.len most)
  · rw [h] at h0
    exact absurd h0 (by decide)
  · rfl
/-- what is there behind an act that was done -/
theorem hasS_act {S : SV} {n m : Nat} (hg : GS S n m) {a : AC} {most : Int} (h0 : (doS S a most).2 = 0) (t : Nat) (x : ByteArray) : hasS (doS S a most).1 t x = if t = a.t0 ∧ x = a.name then a.puts else hasS S t x := by
  have ht := a.t0_lt.1
  cases hp : a.puts
  · have e : doS S a most = delR S a.t0 a.name := by unfold doS; rw [hp, if_neg (by decide)]
    rw [e] at h0 ⊢
    exact hasS_del hg ht h0 t x
  · have hr := act_room hp h0
    have e : doS S a most = putR S a.t0 a.name (a.data most) := by unfold doS; rw [hp, if_pos rfl]
    rw [e]
    exact hasS_put hr t x
theorem doD_act {S : SV} (D : Nat → ByteArray → List Int) {a : AC} {most : Int} (h0 : (doS S a most).2 = 0) (t : Nat) (x : ByteArray) : doD S D a most t x = if a.puts = true ∧ t = a.t0 ∧ x = a.name then a.data most else D t x := by
  unfold doD
  cases hp : a.puts
  · rw [if_neg (by simp), if_neg (by simp)]
  · rw [if_pos ⟨rfl, act_room hp h0⟩]
    unfold putD
    by_cases h1 : t = a.t0
    · rw [if_pos h1]
      by_cases h2 : x = a.name
      · rw [h2, updD_self, if_pos ⟨rfl, h1, rfl⟩]
      · rw [updD_ne _ _ h2, h1, if_neg (fun q => h2 q.2.2)]
    · rw [if_neg h1, if_neg (fun q => h1 q.2.1)]
/-- behind an act that was done -/
theorem view_done {S : SV} {n m : Nat} (hg : GS S n m) (D : Nat → ByteArray → List Int) (a : AC) (most : Int) (h0 : (doS S a most).2 = 0) : vwP (doS S a most).1 (doD S D a most) 8 = aftS (vwP S D 8) a most := by
  have ht := a.t0_lt.1
  have hn := a.n0_lt.1
  refine vw_ext (by unfold aftS; rw [List.length_set, vwP_len]) (fun t k h1 h2 => ?_)
  have hnm : ∀ k, k < 6 → (nmS k = a.name ↔ k = a.n0) := fun k hk => ⟨fun q => nmS_inj hk hn q, fun q => by rw [q]; rfl⟩
  have H1 := hasS_act hg h0 t (nmS k)
  have H2 := doD_act D h0 t (nmS k)
  unfold aftS cellV
  by_cases he : t = a.t0 ∧ k = a.n0
  · rw [if_pos ⟨he.1, (hnm k h2).2 he.2⟩] at H1
    rw [H1, H2, he.1, he.2, List.getElem?_set_self (by rw [vwP_len]; omega)]
    unfold strA
    cases hp : a.puts
    · rfl
    · rw [if_pos rfl, if_pos rfl, if_pos ⟨rfl, rfl, rfl⟩]
  · have hc : ¬ (t = a.t0 ∧ nmS k = a.name) := fun q => he ⟨q.1, (hnm k h2).1 q.2⟩
    rw [if_neg hc] at H1
    rw [if_neg (fun q => hc q.2)] at H2
    rw [List.getElem?_set_ne (by omega), vwP_at S D 8 t k h2 h1, H1, H2]
    rfl
/-- behind an act that was refused -/
theorem view_kept {S : SV} (D : Nat → ByteArray → List Int) (a : AC) (most : Int) (h0 : (doS S a most).2 ≠ 0) : (doS S a most).1 = S ∧ doD S D a most = D := by
  cases hp : a.puts
  · have e : doS S a most = delR S a.t0 a.name := by unfold doS; rw [hp, if_neg (by decide)]
    rw [e] at h0 ⊢
    exact ⟨(delR_no h0).1, by unfold doD; rw [hp, if_neg (by simp)]⟩
  · have hr : ¬ roomS (S.ar a.t0) (a.data most).length = true := by
      intro q
      rw [doS_put hp, ← AC.data_len, q] at h0
      exact h0 rfl
    have e : doS S a most = putR S a.t0 a.name (a.data most) := by unfold doS; rw [hp, if_pos rfl]
    rw [e]
    refine ⟨?_, by unfold doD; rw [if_neg (fun q => hr q.2)]⟩
    unfold putR
    rw [if_neg hr]
end Go.Proofs.YtmofiicjaldmiaaGreatDoor.SxC
namespace Go.Proofs.YtmofiicjaldmiaaGreatDoor.SxD
open Go.RowKit Go.Shelf Go.Proofs.YtmofiicjaldmiaaGreatDoorW.PrintWords Go.Proofs.YtmofiicjaldmiaaGreatDoorW.PrintLast Go.Proofs.YtmofiicjaldmiaaGreatDoor.SvA Go.Proofs.YtmofiicjaldmiaaGreatDoor.SvB Go.Proofs.YtmofiicjaldmiaaGreatDoor.SvC Go.Proofs.YtmofiicjaldmiaaGreatDoor.SvD Go.Proofs.YtmofiicjaldmiaaGreatDoor.SvE Go.Proofs.YtmofiicjaldmiaaGreatDoor.SvF Go.Proofs.YtmofiicjaldmiaaGreatDoor.SvG Go.Proofs.YtmofiicjaldmiaaGreatDoor.SvH Go.Proofs.YtmofiicjaldmiaaGreatDoor.SvI Go.Proofs.YtmofiicjaldmiaaGreatDoor.SvJ Go.Proofs.YtmofiicjaldmiaaGreatDoor.SvK Go.Proofs.YtmofiicjaldmiaaGreatDoor.SvL Go.Proofs.YtmofiicjaldmiaaGreatDoor.SvM Go.Proofs.YtmofiicjaldmiaaGreatDoor.SvN Go.Proofs.YtmofiicjaldmiaaGreatDoor.SvO Go.Proofs.YtmofiicjaldmiaaGreatDoor.SvP Go.Proofs.YtmofiicjaldmiaaGreatDoor.SvQ Go.Proofs.YtmofiicjaldmiaaGreatDoor.SvR Go.Proofs.YtmofiicjaldmiaaGreatDoor.SvS Go.Proofs.YtmofiicjaldmiaaGreatDoor.SvT Go.Proofs.YtmofiicjaldmiaaGreatDoor.SvU Go.Proofs.YtmofiicjaldmiaaGreatDoor.SvV Go.Proofs.YtmofiicjaldmiaaGreatDoor.SvW Go.Proofs.YtmofiicjaldmiaaGreatDoor.SvX Go.Proofs.YtmofiicjaldmiaaGreatDoor.SvY Go.Proofs.YtmofiicjaldmiaaGreatDoor.SvZ Go.Proofs.YtmofiicjaldmiaaGreatDoor.SwA Go.Proofs.YtmofiicjaldmiaaGreatDoor.SwB Go.Proofs.YtmofiicjaldmiaaGreatDoor.SwC Go.Proofs.YtmofiicjaldmiaaGreatDoor.SwD Go.Proofs.YtmofiicjaldmiaaGreatDoor.SwE Go.Proofs.YtmofiicjaldmiaaGreatDoor.SwF Go.Proofs.YtmofiicjaldmiaaGreatDoor.SwG Go.Proofs.YtmofiicjaldmiaaGreatDoor.SwI Go.Proofs.YtmofiicjaldmiaaGreatDoor.SwJ Go.Proofs.YtmofiicjaldmiaaGreatDoor.SwK Go.Proofs.YtmofiicjaldmiaaGreatDoor.SwH Go.Proofs.YtmofiicjaldmiaaGreatDoor.SwL Go.Proofs.YtmofiicjaldmiaaGreatDoor.SwM Go.Proofs.YtmofiicjaldmiaaGreatDoor.SwN Go.Proofs.YtmofiicjaldmiaaGreatDoor.SwO Go.Proofs.YtmofiicjaldmiaaGreatDoor.SwP Go.Proofs.YtmofiicjaldmiaaGreatDoor.SwQ Go.Proofs.YtmofiicjaldmiaaGreatDoor.SwR Go.Proofs.YtmofiicjaldmiaaGreatDoor.SwS Go.Proofs.YtmofiicjaldmiaaGreatDoor.SwT Go.Proofs.YtmofiicjaldmiaaGreatDoor.SwX Go.Proofs.YtmofiicjaldmiaaGreatDoor.SxA Go.Proofs.YtmofiicjaldmiaaGreatDoor.SxB Go.Proofs.YtmofiicjaldmiaaGreatDoor.SwY Go.Proofs.YtmofiicjaldmiaaGreatDoor.SwV Go.Proofs.YtmofiicjaldmiaaGreatDoor.SxC
set_option linter.unusedVariables false
set_option linter.unusedSimpArgs false
open Go.Lib
theorem strK_K {w w1 : World} {x : ByteArray} {cs : List Value} (h : strK.K w x cs) : strK.K w1 x cs := h
/-- what is shown, in a box -/
def Shown (w : World) (own : Nat → Nat) (ob : Nat) (z : Sl) (xs : List ByteArray) : Prop := Blk w ob #[z.enc] 38 ∧ own ob = 1 ∧ Rd strK w own 0 z xs ∧ ∃ gb : Nat, z.A = some ⟨gb, 0, none⟩
theorem Shown.keep {w w' : World} {own own' : Nat → Nat} {ob : Nat} {z : Sl} {xs : List ByteArray} {ts : Nat → Prop} (h : Shown w own ob z xs) (hk : Kp ts w own w' own') (h0 : ¬ ts 0) (h1 : ¬ ts 1) : Shown w' own' ob z xs := by
  obtain ⟨a, b, c, gd⟩ := h
  obtain ⟨a', b'⟩ := a.keep hk (by rw [b]; exact h1)
  exact ⟨a', b'.trans b, c.keep strK_K (by decide) hk h0, gd⟩
theorem strP_rd {w w' : World} {own o : Nat → Nat} {z : Sl} {ys : List ByteArray} (h : Ow strK 9 w' o 2 z ys) (ho : ∀ k, k < w.heap.size → o k = 0) : Rd strK w' (tagged w own 0) 0 z ys := by
  obtain ⟨a, b, c⟩ := ow_rd h
  refine ⟨a, b, fun ad ha hn => tagged_new ?_⟩
  have h1 := c ad ha hn
  rcases Nat.lt_or_ge ad.block w.heap.size with h2 | h2
  · rw [ho _ h2] at h1
    exact absurd h1 (by decide)
  · exact h2
def kst (t : Nat) (q : Nat) : Prop := k20 t q ∨ q = 1
/-- what step leaves -/
def StepR (w : World) (own : Nat → Nat) (t g gs : Nat) (ga : Nat → Nat) (ob : Nat) (S : SV) (D : Nat → ByteArray → List Int) (a : AC) (e : Ending) (w' : World) : Prop :=
  e = .returned (.bool true) ∧ ∃ (own' : Nat → Nat) (z' : Sl), SvMem w' own' t g gs ga (doS S a 3000).1 ∧ Shown w' own' ob z' (vwP (doS S a 3000).1 (doD S D a 3000) 8) ∧ Kp (kst t) w own w' own'
theorem step_code {S : SV} {n m : Nat} (hg : GS S n m) (a : AC) (most : Int) : ((doS S a most).2 = 0 ∧ (a.puts = true ∨ hasS S a.t0 a.name = true)) ∨ ((doS S a most).2 = 112 ∧ a.puts = true) ∨ ((doS S a most).2 = 111 ∧ a.puts = false ∧ hasS S a.t0 a.name = false) := by
  cases hp : a.puts
  · have e : doS S a most = delR S a.t0 a.name := by unfold doS; rw [hp, if_neg (by decide)]
    rw [e, (delR_at _ _ _).2]
    unfold hasS
    cases (oldS (S.ar a.t0) a.name).isSome
    · exact .inr (.inr ⟨rfl, rfl, rfl⟩)
    · exact .inl ⟨rfl, .inr rfl⟩
  · rw [doS_put hp]
    cases roomS (S.ar a.t0) (a.len most)
    · exact .inr (.inl ⟨rfl, rfl⟩)
    · exact .inl ⟨rfl, .inl rfl⟩
theorem had_cell {S : SV} {D : Nat → ByteArray → List Int} {a : AC} : (vwP S D 8)[6 * a.t0 + a.n0]? = some (cellV S D a.t0 a.n0) ∧ (!(cellV S D a.t0 a.n0 == (⟨#[45]⟩ : ByteArray))) = hasS S a.t0 a.name := by
  refine ⟨vwP_at S D 8 _ _ a.n0_lt.1 a.t0_lt.1, ?_⟩
  unfold cellV AC.name
  cases hasS S a.t0 (nmS a.n0)
  · rw [if_neg (by decide)]
    decide
  · rw [if_pos rfl]
    rw [SwX.bax]
    · rfl
    · intro q
      have h0 := congrArg (fun b : ByteArray => b.toList.head?) q
      simp only [ByteArray.toList_eq, ByteArray.data_append, Array.toList_append] at h0
      exact absurd h0 (by simp)
-- step walk
theorem rd_ss {w : World} {own : Nat → Nat} {ob : Nat} {z : Sl} {xs : List ByteArray} (h : Shown w own ob z xs) : SsAt w z.A xs := fun j x hx => by
  obtain ⟨_, _, ⟨hC, _, _⟩, gb, hA⟩ := h
  have hl : xs.length = z.n := hC.1
  have hj := (List.getElem?_eq_some_iff.1 hx).1
  obtain ⟨ad, h1, h2⟩ := sc_at hC j (by omega) x hx
  rw [hA] at h1
  injection h1 with h1
  subst h1
  rw [add_plain] at h2
  exact ⟨gb, hA, h2⟩
set_option maxRecDepth 100000 in
set_option maxHeartbeats 2000000 in
theorem step_ok (w : World) (own : Nat → Nat) (t g gs : Nat) (ga : Nat → Nat) (S : SV) (H : SvMem w own t g gs ga S) (ht : 100 ≤ t) {n m : Nat} {D : Nat → ByteArray → List Int} (hg : GS S n m) (hc : CS S D) (hn : 8 ≤ n) (hN : GN S) (hm : m + 1 < 4294967296) (ob : Nat) (z : Sl) (hs : Shown w own ob z (vwP S D 8)) (a : AC) (ha : a.wf) :
    Calls Tryz.prog 40 #[pt g, a.enc, pt ob] w (StepR w own t g gs ga ob S D a) := by
  have HDO := Lib.hid (fun (v : World) (o : Nat → Nat) (M : SvMem v o t g gs ga S) (W : World) (h : Below v.heap.size v W) => does_at v o t g gs ga S M (by omega) hg hm W h a ha 3000 (by omega) (by omega))
  have HAT := Lib.hid (fun W => at_ok a ha W)
  have HPU := Lib.hid (fun W => puts_ok a W)
  have hco := step_code hg a 3000
  have hhc := had_cell (S := S) (D := D) (a := a)
  obtain ⟨hgs, hcs⟩ := doS_all hg hc a 3000 (by omega) (by omega) hm
  have HV := Lib.hid (fun (W : World) (o : Nat → Nat) (M : SvMem W o t g gs ga (doS S a 3000).1) => view_ok W o t g gs ga (doS S a 3000).1 M hgs hcs hn (GN.act hN a 3000))
  have hai : 6 * a.t0 + a.n0 < 48 := by have := a.t0_lt.1; have := a.n0_lt.1; omega
  have HY : vwP (doS S a 3000).1 (doD S D a 3000) 8 = if (doS S a 3000).2 = 0 then aftS (vwP S D 8) a 3000 else vwP S D 8 := by
    split
    · rename_i h0
      exact view_done hg D a 3000 h0
    · rename_i h0
      rw [(view_kept D a 3000 h0).1, (view_kept D a 3000 h0).2]
  have hxl : (vwP S D 8).length = 48 := vwP_len _ _ _
  unfold StepR
  generalize hasS S a.t0 a.name = had at *
  generalize cellV S D a.t0 a.n0 = cv at *
  generalize 6 * a.t0 + a.n0 = ai at *
  generalize vwP (doS S a 3000).1 (doD S D a 3000) 8 = ys at *
  generalize vwP S D 8 = xs at *
  generalize doS S a 3000 = R at *
  generalize doD S D a 3000 = D2 at *
  have HM := Lib.hid H
  clear hgs hcs H hg hc hN hm hn
  have HCO := Lib.hid hco
  have HHC := Lib.hid hhc
  have HYY := Lib.hid HY
  have HXL := Lib.hid hxl
  have HAF := Lib.hid (fun (W : World) (A : Option Addr) (c : Nat) (hx : strK.C W A xs.length xs) => after_ok W A c xs hx hxl a ha 3000 (by omega) (by omega))
  have HSH := Lib.hid hs
  clear hco hhc HY hxl hs
  obtain ⟨k, tn, nn, b⟩ := a
  dsimp only [AC.enc] at *
  have hBX : ∀ W, Below (w.alloc (.cells #[.int .i64 k, .int .i64 tn, .int .i64 nn, .int .i64 b] 33)).heap.size (w.alloc (.cells #[.int .i64 k, .int .i64 tn, .int .i64 nn, .int .i64 b] 33)) W → W.cell? ⟨w.heap.size, 0, none⟩ = some (.int .i64 k) ∧ W.cell? ⟨w.heap.size, 1, none⟩ = some (.int .i64 tn) ∧ W.cell? ⟨w.heap.size, 2, none⟩ = some (.int .i64 nn) ∧ W.cell? ⟨w.heap.size, 3, none⟩ = some (.int .i64 b) := fun W h => ⟨cellOf h (Blk.cell (i := 0) (blkNew rfl) rfl), cellOf h (Blk.cell (i := 1) (blkNew rfl) rfl), cellOf h (Blk.cell (i := 2) (blkNew rfl) rfl), cellOf h (Blk.cell (i := 3) (blkNew rfl) rfl)⟩
  have hB1 := ba (w := w) (.cells #[.int .i64 k, .int .i64 tn, .int .i64 nn, .int .i64 b] 33)
  have M1 := HM.out.below hB1
  have k1 := Kp.below (ts := kst t) (own := own) hB1 0
  have s1 := HSH.out.keep (Kp.below (ts := fun _ => False) (own := own) hB1 0) (fun q => q) (fun q => q)
  have bb : Blk (w.alloc (.cells #[.int .i64 k, .int .i64 tn, .int .i64 nn, .int .i64 b] 33)) w.heap.size #[.int .i64 k, .int .i64 tn, .int .i64 nn, .int .i64 b] 33 := blkNew rfl
  have ob0 : tagged w own 0 w.heap.size = 0 := tagged_new (Nat.le_refl _)
  go_enter Tryz.func40, Tryz.ntmps40
  go_upto_region 1 with (fail)
  generalize w.alloc (.cells #[.int .i64 k, .int .i64 tn, .int .i64 nn, .int .i64 b] 33) = v1 at *
  generalize tagged w own 0 = o1 at *
  have HDX := Lib.hid (HDO.out v1 o1 M1)
  have HK1 := Lib.hid k1
  have HS1 := Lib.hid s1
  have HBB := Lib.hid bb
  have HOB := Lib.hid ob0
  clear hBX M1 k1 s1 ob0 HDO HM HSH
  have b0 := Blk.cell (i := 0) bb rfl
  have b1 := Blk.cell (i := 1) bb rfl
  have b2 := Blk.cell (i := 2) bb rfl
  have b3 := Blk.cell (i := 3) bb rfl
  clear bb
  have nt0 : ¬ k20 t 0 := by intro h; have := h.1; omega
  have nt1 : ¬ k20 t 1 := by intro h; have := h.1; omega
  have kk : ∀ {w w' : World} {o o' : Nat → Nat}, Kp (k20 t) w o w' o' → Kp (kst t) w o w' o' := fun h => h.mono (fun q hq => .inl hq)
  obtain ⟨zA, zn, zc⟩ := z
  go_upto_region 3 with (go_at_call 18; (with_reducible refine Calls.mono (HDX.out _ (Below.refl _ _)) ?_); rintro e w3 ⟨rfl, o3, M3, k3⟩; have bb := HBB.out.keep k3 (by rw [HOB.out]; exact nt0); have b0 := Blk.cell (i := 0) bb.1 rfl; have b1 := Blk.cell (i := 1) bb.1 rfl; have b2 := Blk.cell (i := 2) bb.1 rfl; have b3 := Blk.cell (i := 3) bb.1 rfl; have s3 := HS1.out.keep k3 nt0 nt1; have c0 := Blk.cell (i := 0) s3.1 rfl; unfold Sl.enc at c0; have HM3 := Lib.hid M3; have HK3 := Lib.hid (HK1.out.trans (kk k3)); have HS3 := Lib.hid s3; have HBB3 := Lib.hid bb; clear M3 k3 s3 bb)
  have hC : strK.C w3 zA zn xs := HS3.out.2.2.1.1
  have hzl : xs.length = zn := hC.1
  subst hzl
  have hai2 : (ai : Int) < (xs.length : Int) := by have := HXL.out; omega
  have hai0 : (0 : Int) ≤ (ai : Int) := by omega
  obtain ⟨ad, hzA, q0⟩ := sc_at hC ai (by omega) cv HHC.out.1
  subst hzA
  have hnc : (!(cv.toList == [45])) = had := by rw [← HHC.out.2, ← toList_beq, show (⟨#[45]⟩ : ByteArray).toList = [45] by rw [ByteArray.toList_eq]]
  obtain ⟨S2, rc⟩ := R
  dsimp only at *
  rcases HCO.out with ⟨h0, hq⟩ | ⟨h0, hp⟩ | ⟨h0, hp, hh⟩
  · subst h0
    have hy : ys = aftS xs ⟨k, tn, nn, b⟩ 3000 := by rw [HYY.out, if_pos rfl]
    have hyl : ys.length = 48 := by rw [hy]; unfold aftS; rw [List.length_set]; exact HXL.out
    have HYL := Lib.hid hyl
    rw [← hy] at HAF
    clear hyl hy
    have hq2 : (AC.puts ⟨k, tn, nn, b⟩ = false ∧ had = true) ∨ AC.puts ⟨k, tn, nn, b⟩ = true := by
      rcases hq with q | q
      · exact .inr q
      · rcases hpp : AC.puts ⟨k, tn, nn, b⟩
        · exact .inl ⟨rfl, q⟩
        · exact .inr rfl
    clear hq
    rcases hq2 with ⟨hp, rfl⟩ | hp
    all_goals
      rw [hp] at HPU
      go_upto_region 9 with (first
        | (go_at_call 28; refine (HAT.out _).mono ?_; rintro e w4 ⟨rfl, hb4⟩; have q1 := cellOf hb4 q0; obtain ⟨y0, y1, y2, y3⟩ := (show w4.cell? ⟨w.heap.size, 0, none⟩ = _ ∧ w4.cell? ⟨w.heap.size, 1, none⟩ = _ ∧ w4.cell? ⟨w.heap.size, 2, none⟩ = _ ∧ w4.cell? ⟨w.heap.size, 3, none⟩ = _ from ⟨cellOf hb4 b0, cellOf hb4 b1, cellOf hb4 b2, cellOf hb4 b3⟩); have HB4 := Lib.hid hb4; clear hb4 q0)
        | (go_at_call 27; refine (HPU.out _).mono ?_; rintro e w5 ⟨rfl, hb5⟩; obtain ⟨u0, u1, u2, u3⟩ := (show w5.cell? ⟨w.heap.size, 0, none⟩ = _ ∧ w5.cell? ⟨w.heap.size, 1, none⟩ = _ ∧ w5.cell? ⟨w.heap.size, 2, none⟩ = _ ∧ w5.cell? ⟨w.heap.size, 3, none⟩ = _ from ⟨cellOf hb5 y0, cellOf hb5 y1, cellOf hb5 y2, cellOf hb5 y3⟩); have HB5 := Lib.hid (HB4.out.trans (hb5.mono HB4.out.size)); clear hb5)
        | (go_at_call 38; (with_reducible refine Calls.mono (HAF.out _ _ _ (Kd.C_below hC HB5.out)) ?_); rintro e w6 ⟨⟨qA, qn, qc⟩, qo, rfl, z1, z2, z3⟩; have HZ1 := Lib.hid z1; have HZ2 := Lib.hid z2; have HB6 := Lib.hid z3; have s6 := ((HS3.out.1.below HB5.out).below z3); have c6 := Blk.cell (i := 0) s6 rfl; have f6 := Blk.frozen (i := 0) s6; have HS6 := Lib.hid s6; clear z1 z2 z3 s6; unfold Sl.enc at *))
      have kS : Kp (fun q => q = 1) w6 (tagged w5 (tagged w3 o3 0) 0) (w6.setCell ⟨ob, 0, none⟩ (.slice qA qn qc)) (tagged w5 (tagged w3 o3 0) 0) := (Kp.refl _ _ _).set _ _ (fun j hj hn q => hn (by
        have h1 : ob < w3.heap.size := HS3.out.1.lt
        have h2 : ob < w5.heap.size := Nat.lt_of_lt_of_le h1 HB5.out.size
        rw [q]
        show tagged w5 (tagged w3 o3 0) 0 ob = 1
        rw [tagged_old h2, tagged_old h1]
        exact HS3.out.2.1))
      have M7 := ((HM3.out.below HB5.out).below HB6.out).keep kS (by decide) (fun q h1 h2 => by omega)
      have hql : ys.length = qn := (ow_len HZ1.out).1
      have hq48 := HYL.out
      obtain ⟨gb, hgb⟩ := ow_head HZ1.out (show 0 < qn by omega)
      injection hgb with hgA
      subst hgA hql
      have k7 := ((HK3.out.trans (Kp.below HB5.out 0)).trans (Kp.below HB6.out 0)).trans (kS.mono (ts' := kst t) (fun q hq => .inr hq))
      have s7 : Shown (w6.setCell ⟨ob, 0, none⟩ (.slice (some ⟨gb, 0, none⟩) ys.length qc)) (tagged w5 (tagged w3 o3 0) 0) ob ⟨some ⟨gb, 0, none⟩, ys.length, qc⟩ ys := ⟨Blk.set HS6.out (i := 0) _, by
        have h1 : ob < w3.heap.size := HS3.out.1.lt
        have h2 : ob < w5.heap.size := Nat.lt_of_lt_of_le h1 HB5.out.size
        rw [tagged_old h2, tagged_old h1]
        exact HS3.out.2.1, (strP_rd HZ1.out HZ2.out).keep strK_K (by decide) kS (by decide), gb, rfl⟩
      clear kS u0 u1 u2 u3 c6 f6 hq48
      generalize w6.setCell ⟨ob, 0, none⟩ (.slice (some ⟨gb, 0, none⟩) ys.length qc) = v7 at *
      generalize tagged w5 (tagged w3 o3 0) 0 = o7 at *
      have HVV := Lib.hid (HV.out v7 o7 M7)
      have HM7 := Lib.hid M7
      have HS7 := Lib.hid s7
      have HK7 := Lib.hid k7
      clear M7 s7 k7
      go_wp2_with (first
        | (go_at_call 21; (with_reducible refine Calls.mono HVV.out ?_); rintro e w8 ⟨⟨vA, vn, vc⟩, vo, rfl, z1, z2, z3⟩; have HB8 := Lib.hid z3; have HX8 := Lib.hid (ss_of z1); obtain rfl : ys.length = vn := (ow_len z1).1; have s8 : Shown w8 _ ob ⟨some ⟨gb, 0, none⟩, ys.length, qc⟩ ys := HS7.out.keep (Kp.below (ts := fun _ => False) z3 0) (fun q => q) (fun q => q); have c8 := Blk.cell (i := 0) s8.1 rfl; have HSS := Lib.hid s8; have HS8 := Lib.hid (show SsAt w8 (some ⟨gb, 0, none⟩) ys from rd_ss s8); clear z1 z2 z3 s8; unfold Sl.enc at *)
        | (go_at_call 33; (with_reducible refine Calls.mono (same_ok _ _ _ _ _ ys ys HX8.out HS8.out (by have := HYL.out; omega) (by have := HYL.out; omega)) ?_); rintro e w9 ⟨rfl, hb9⟩; have HB9 := Lib.hid hb9; clear hb9))
      go_ret
      exact ⟨ret_bool (by simp), _, (HM7.out.below HB8.out).below HB9.out, ⟨_, HSS.out.keep (Kp.below (ts := fun _ => False) HB9.out 0) (fun q => q) (fun q => q)⟩, (HK7.out.trans (Kp.below HB8.out 0)).trans (Kp.below HB9.out 0)⟩
  · subst h0
    rw [hp] at HPU
    have hy : ys = xs := by rw [HYY.out, if_neg (by decide)]
    go_upto_region 9 with (first
      | (go_at_call 28; refine (HAT.out _).mono ?_; rintro e w4 ⟨rfl, hb4⟩; have q1 := cellOf hb4 q0; obtain ⟨y0, y1, y2, y3⟩ := (show w4.cell? ⟨w.heap.size, 0, none⟩ = _ ∧ w4.cell? ⟨w.heap.size, 1, none⟩ = _ ∧ w4.cell? ⟨w.heap.size, 2, none⟩ = _ ∧ w4.cell? ⟨w.heap.size, 3, none⟩ = _ from ⟨cellOf hb4 b0, cellOf hb4 b1, cellOf hb4 b2, cellOf hb4 b3⟩); have HB4 := Lib.hid hb4; clear hb4 q0)
      | (go_at_call 27; refine (HPU.out _).mono ?_; rintro e w5 ⟨rfl, hb5⟩; have HB5 := Lib.hid (HB4.out.trans (hb5.mono HB4.out.size)); clear hb5))
    have M5 := HM3.out.below HB5.out
    have s5 := HS3.out.keep (Kp.below (ts := fun _ => False) HB5.out 0) (fun q => q) (fun q => q)
    have k5 := HK3.out.trans (Kp.below HB5.out 0)
    subst hy
    generalize tagged w3 o3 0 = o5 at *
    have HVV := Lib.hid (HV.out w5 o5 M5)
    have HM5 := Lib.hid M5
    have HS5 := Lib.hid s5
    have HK5 := Lib.hid k5
    clear M5 s5 k5
    go_wp2_with (first
      | (go_at_call 21; (with_reducible refine Calls.mono HVV.out ?_); rintro e w6 ⟨⟨vA, vn, vc⟩, vo, rfl, z1, z2, z3⟩; have HB6 := Lib.hid z3; have HX6 := Lib.hid (ss_of z1); obtain rfl : ys.length = vn := (ow_len z1).1; have s6 : Shown w6 _ ob ⟨some ad, ys.length, zc⟩ ys := HS5.out.keep (Kp.below (ts := fun _ => False) z3 0) (fun q => q) (fun q => q); have c6 := Blk.cell (i := 0) s6.1 rfl; have HSS := Lib.hid s6; have HS6 := Lib.hid (show SsAt w6 (some ad) ys from rd_ss s6); clear z1 z2 z3 s6; unfold Sl.enc at *)
      | (go_at_call 33; (with_reducible refine Calls.mono (same_ok _ _ _ _ _ ys ys HX6.out HS6.out (by have := HXL.out; omega) (by have := HXL.out; omega)) ?_); rintro e w7 ⟨rfl, hb7⟩; have HB7 := Lib.hid hb7; clear hb7))
    go_ret
    refine ⟨ret_bool (by simp), _, (HM5.out.below HB6.out).below HB7.out, ⟨_, HSS.out.keep (Kp.below (ts := fun _ => False) HB7.out 0) (fun q => q) (fun q => q)⟩, (HK5.out.trans (Kp.below HB6.out 0)).trans (Kp.below HB7.out 0)⟩
  · subst h0
    rw [hp] at HPU
    rw [hh] at hnc
    have hy : ys = xs := by rw [HYY.out, if_neg (by decide)]
    go_upto_region 9 with (first
      | (go_at_call 28; refine (HAT.out _).mono ?_; rintro e w4 ⟨rfl, hb4⟩; have q1 := cellOf hb4 q0; obtain ⟨y0, y1, y2, y3⟩ := (show w4.cell? ⟨w.heap.size, 0, none⟩ = _ ∧ w4.cell? ⟨w.heap.size, 1, none⟩ = _ ∧ w4.cell? ⟨w.heap.size, 2, none⟩ = _ ∧ w4.cell? ⟨w.heap.size, 3, none⟩ = _ from ⟨cellOf hb4 b0, cellOf hb4 b1, cellOf hb4 b2, cellOf hb4 b3⟩); have HB4 := Lib.hid hb4; clear hb4 q0)
      | (go_at_call 27; refine (HPU.out _).mono ?_; rintro e w5 ⟨rfl, hb5⟩; have HB5 := Lib.hid (HB4.out.trans (hb5.mono HB4.out.size)); clear hb5))
    have M5 := HM3.out.below HB5.out
    have s5 := HS3.out.keep (Kp.below (ts := fun _ => False) HB5.out 0) (fun q => q) (fun q => q)
    have k5 := HK3.out.trans (Kp.below HB5.out 0)
    subst hy
    generalize tagged w3 o3 0 = o5 at *
    have HVV := Lib.hid (HV.out w5 o5 M5)
    have HM5 := Lib.hid M5
    have HS5 := Lib.hid s5
    have HK5 := Lib.hid k5
    clear M5 s5 k5
    go_wp2_with (first
      | (go_at_call 21; (with_reducible refine Calls.mono HVV.out ?_); rintro e w6 ⟨⟨vA, vn, vc⟩, vo, rfl, z1, z2, z3⟩; have HB6 := Lib.hid z3; have HX6 := Lib.hid (ss_of z1); obtain rfl : ys.length = vn := (ow_len z1).1; have s6 : Shown w6 _ ob ⟨some ad, ys.length, zc⟩ ys := HS5.out.keep (Kp.below (ts := fun _ => False) z3 0) (fun q => q) (fun q => q); have c6 := Blk.cell (i := 0) s6.1 rfl; have HSS := Lib.hid s6; have HS6 := Lib.hid (show SsAt w6 (some ad) ys from rd_ss s6); clear z1 z2 z3 s6; unfold Sl.enc at *)
      | (go_at_call 33; (with_reducible refine Calls.mono (same_ok _ _ _ _ _ ys ys HX6.out HS6.out (by have := HXL.out; omega) (by have := HXL.out; omega)) ?_); rintro e w7 ⟨rfl, hb7⟩; have HB7 := Lib.hid hb7; clear hb7))
    go_ret
    refine ⟨ret_bool (by simp), _, (HM5.out.below HB6.out).below HB7.out, ⟨_, HSS.out.keep (Kp.below (ts := fun _ => False) HB7.out 0) (fun q => q) (fun q => q)⟩, (HK5.out.trans (Kp.below HB6.out 0)).trans (Kp.below HB7.out 0)⟩
end Go.Proofs.YtmofiicjaldmiaaGreatDoor.SxD
namespace Go.Proofs.YtmofiicjaldmiaaGreatDoor.SxE
open Go.RowKit Go.Shelf Go.Proofs.YtmofiicjaldmiaaGreatDoorW.PrintWords Go.Proofs.YtmofiicjaldmiaaGreatDoorW.PrintLast Go.Proofs.YtmofiicjaldmiaaGreatDoor.SvA Go.Proofs.YtmofiicjaldmiaaGreatDoor.SvB Go.Proofs.YtmofiicjaldmiaaGreatDoor.SvC Go.Proofs.YtmofiicjaldmiaaGreatDoor.SvD Go.Proofs.YtmofiicjaldmiaaGreatDoor.SvE Go.Proofs.YtmofiicjaldmiaaGreatDoor.SvF Go.Proofs.YtmofiicjaldmiaaGreatDoor.SvG Go.Proofs.YtmofiicjaldmiaaGreatDoor.SvH Go.Proofs.YtmofiicjaldmiaaGreatDoor.SvI Go.Proofs.YtmofiicjaldmiaaGreatDoor.SvJ Go.Proofs.YtmofiicjaldmiaaGreatDoor.SvK Go.Proofs.YtmofiicjaldmiaaGreatDoor.SvL Go.Proofs.YtmofiicjaldmiaaGreatDoor.SvM Go.Proofs.YtmofiicjaldmiaaGreatDoor.SvN Go.Proofs.YtmofiicjaldmiaaGreatDoor.SvO Go.Proofs.YtmofiicjaldmiaaGreatDoor.SvP Go.Proofs.YtmofiicjaldmiaaGreatDoor.SvQ Go.Proofs.YtmofiicjaldmiaaGreatDoor.SvR Go.Proofs.YtmofiicjaldmiaaGreatDoor.SvS Go.Proofs.YtmofiicjaldmiaaGreatDoor.SvT Go.Proofs.YtmofiicjaldmiaaGreatDoor.SvU Go.Proofs.YtmofiicjaldmiaaGreatDoor.SvV Go.Proofs.YtmofiicjaldmiaaGreatDoor.SvW Go.Proofs.YtmofiicjaldmiaaGreatDoor.SvX Go.Proofs.YtmofiicjaldmiaaGreatDoor.SvY Go.Proofs.YtmofiicjaldmiaaGreatDoor.SvZ Go.Proofs.YtmofiicjaldmiaaGreatDoor.SwA Go.Proofs.YtmofiicjaldmiaaGreatDoor.SwB Go.Proofs.YtmofiicjaldmiaaGreatDoor.SwC Go.Proofs.YtmofiicjaldmiaaGreatDoor.SwD Go.Proofs.YtmofiicjaldmiaaGreatDoor.SwE Go.Proofs.YtmofiicjaldmiaaGreatDoor.SwF Go.Proofs.YtmofiicjaldmiaaGreatDoor.SwG Go.Proofs.YtmofiicjaldmiaaGreatDoor.SwI Go.Proofs.YtmofiicjaldmiaaGreatDoor.SwJ Go.Proofs.YtmofiicjaldmiaaGreatDoor.SwK Go.Proofs.YtmofiicjaldmiaaGreatDoor.SwH Go.Proofs.YtmofiicjaldmiaaGreatDoor.SwL Go.Proofs.YtmofiicjaldmiaaGreatDoor.SwM Go.Proofs.YtmofiicjaldmiaaGreatDoor.SwN Go.Proofs.YtmofiicjaldmiaaGreatDoor.SwO Go.Proofs.YtmofiicjaldmiaaGreatDoor.SwP Go.Proofs.YtmofiicjaldmiaaGreatDoor.SwQ Go.Proofs.YtmofiicjaldmiaaGreatDoor.SwR Go.Proofs.YtmofiicjaldmiaaGreatDoor.SwS Go.Proofs.YtmofiicjaldmiaaGreatDoor.SwT Go.Proofs.YtmofiicjaldmiaaGreatDoor.SwX Go.Proofs.YtmofiicjaldmiaaGreatDoor.SxA Go.Proofs.YtmofiicjaldmiaaGreatDoor.SxB Go.Proofs.YtmofiicjaldmiaaGreatDoor.SwY Go.Proofs.YtmofiicjaldmiaaGreatDoor.SwV Go.Proofs.YtmofiicjaldmiaaGreatDoor.SxC Go.Proofs.YtmofiicjaldmiaaGreatDoor.SxD
set_option linter.unusedVariables false
set_option linter.unusedSimpArgs false
open Go.Lib
/-- how it stands behind some acts -/
def FnSt (w : World) (N g gs : Nat) (ga : Nat → Nat) (ob : Nat) (k : Nat) (wr : World) : Prop := ∃ S own' D z, SvMem wr own' 100 g gs ga S ∧ GS S N k ∧ CS S D ∧ GN S ∧ Shown wr own' ob z (vwP S D 8) ∧ Kp (kst 100) w (fun _ => 0) wr own'
/-- what founded gives -/
def FoundP (w : World) (e : Ending) (w' : World) : Prop := ∃ (N k g gs : Nat) (ga : Nat → Nat) (S : SV) (own' : Nat → Nat) (D : Nat → ByteArray → List Int) (z : Sl), e = .returned (.tuple #[pt gs, pt g, z.enc, .bool true]) ∧ 400 ≤ N ∧ N < 800 ∧ k ≤ 60 ∧ SvMem w' own' 100 g gs ga S ∧ GS S N k ∧ CS S D ∧ GN S ∧ Rd strK w' own' 0 z (vwP S D 8) ∧ (∃ gb, z.A = some ⟨gb, 0, none⟩) ∧ Kp (kst 100) w (fun _ => 0) w' own'
set_option maxRecDepth 100000 in
set_option maxHeartbeats 4000000 in
theorem founded_ok (a0 : Int) (A : Option Addr) (c : Nat) (xs : List AC) (h0 : i64s a0) (w : World) (hxs : AcAt w A xs) (hc : xs.length ≤ c) (hl : xs.length ≤ 9223372036854775807) : Calls Tryz.prog 30 #[.int .i64 a0, .slice A xs.length c] w (FoundP w) := by
  obtain ⟨p, hp⟩ : ∃ p : Nat, pk a0 400 = (p : Int) := ⟨(pk a0 400).toNat, by have := pk_bd a0 400 (by omega); omega⟩
  have hpb : p < 400 := by have := pk_bd a0 400 (by omega); omega
  have HP1 := Lib.hid (fun W => pick_ok a0 400 W h0 (by omega) (by omega))
  rw [hp] at HP1
  clear hp
  have hnew : ∀ W : World, Calls Tryz.prog 16 #[.int .i64 (400 + (p : Int))] W (NewP W (List.replicate (512 * (400 + p)) 0)) := fun W => by
    have := new_ok W (400 + p) (by omega) (by omega)
    rwa [show ((400 + p : Nat) : Int) = 400 + (p : Int) by omega] at this
  have hNb : 400 ≤ 400 + p ∧ 400 + p < 800 := by omega
  generalize hN : 400 + p = N at *
  have HAW := Lib.hid (fun W => awake_ok W)
  have HNEW := Lib.hid hnew
  have HN := Lib.hid hN
  clear hnew hN
  have HOP := Lib.hid (fun (W : World) (gs : Nat) (own : Nat → Nat) (H : StA W own 100 gs (BS.fresh (List.replicate (512 * N) 0))) => new_open W N (by omega) (by omega) gs own 100 (by decide) H)
  obtain ⟨g0, c0⟩ := GS.start N (by omega) (fun _ _ => [])
  have n0 := GN.start (BS.fresh (List.replicate (512 * N) 0))
  have HV0 := Lib.hid (fun (W : World) (own : Nat → Nat) (g gs : Nat) (ga : Nat → Nat) (H : SvMem W own 100 g gs ga (S0 (BS.fresh (List.replicate (512 * N) 0)))) => view_ok W own 100 g gs ga _ H g0 c0 (by omega) n0)
  have hvl : (vwP (S0 (BS.fresh (List.replicate (512 * N) 0))) (fun _ _ => []) 8).length = 48 := vwP_len _ _ _
  have HI := Lib.hid (fun (wv : World) (g gs : Nat) (ga : Nat → Nat) (ob : Nat) (W : World) (o : Nat → Nat) (z : Sl) (H : SvMem W o 100 g gs ga (S0 (BS.fresh (List.replicate (512 * N) 0)))) (hs : Shown W o ob z (vwP (S0 (BS.fresh (List.replicate (512 * N) 0))) (fun _ _ => []) 8)) (hk : Kp (kst 100) wv (fun _ => 0) W o) => (show FnSt wv N g gs ga ob 0 W from ⟨_, o, _, z, H, g0, c0, n0, hs, hk⟩))
  generalize vwP (S0 (BS.fresh (List.replicate (512 * N) 0))) (fun _ _ => []) 8 = ys at *
  generalize S0 (BS.fresh (List.replicate (512 * N) 0)) = s0 at *
  clear g0 c0 n0
  have HVL := Lib.hid hvl
  have HXS := Lib.hid hxs
  clear hxs hvl
  go_enter Tryz.func30, Tryz.ntmps30
  go_upto_region 7 with (first
    | (go_at_call 14; (with_reducible refine (HAW.out _).mono ?_); rintro e w0 ⟨rfl, hb0⟩; have HB0 := Lib.hid hb0; clear hb0)
    | (go_at_call 15; (with_reducible refine (HP1.out _).mono ?_); rintro e w' ⟨rfl, rfl⟩)
    | (go_at_call 16; refine (HNEW.out _).mono ?_; rintro e w1 ⟨gs, rfl, hgs, hb1, hN⟩; obtain ⟨o1, st1, k1⟩ := hN (fun _ => 0) 100; have K1 := Lib.hid k1; have ST1 := Lib.hid st1; clear k1 st1 hN hgs hb1)
    | (go_at_call 17; refine Calls.mono (HOP.out _ gs o1 ST1.out) ?_; rintro e w2 ⟨g, o2, ga, rfl, hg2x, M2, k2⟩; have K2 := Lib.hid (And.intro M2 k2); clear M2 k2 hg2x)
    | (go_at_call 21; (with_reducible refine Calls.mono (HV0.out w2 o2 g gs ga K2.out.1) ?_); rintro e w3 ⟨⟨vA, vn, vc⟩, vo, rfl, z1, z2, z3⟩; have HZ := Lib.hid (And.intro z1 (And.intro z2 z3)); clear z1 z2 z3; unfold Sl.enc))
  obtain ⟨z1, z2, z3⟩ := HZ.out
  have hvn : ys.length = vn := (ow_len z1).1
  have hvl := HVL.out
  obtain ⟨gb, hgb⟩ := ow_head z1 (show 0 < vn by omega)
  injection hgb with hgA
  subst hgA hvn
  have hk2 : Kp (kst 100) w (fun _ => 0) w2 o2 := (((kp_zero HB0.out).trans (K1.out.mono (fun _ h => h.elim))).trans K2.out.2).mono (fun _ h => .inl h)
  have hk3 : Kp (kst 100) w (fun _ => 0) w3 (tagged w2 o2 0) := hk2.trans (Kp.below z3 0)
  have hBx := ba (w := w3) (.cells #[.slice (some ⟨gb, 0, none⟩) ys.length vc] 38)
  have hk4 := hk3.trans (Kp.below hBx 1)
  have hM4 := (K2.out.1.below z3).keep (Kp.below (ts := fun _ => False) hBx 1) (fun q => q) (fun _ _ _ q => q)
  have hs4 : Shown (w3.alloc (.cells #[.slice (some ⟨gb, 0, none⟩) ys.length vc] 38)) (tagged w3 (tagged w2 o2 0) 1) w3.heap.size ⟨some ⟨gb, 0, none⟩, ys.length, vc⟩ ys := ⟨blkNew rfl, tagged_new (Nat.le_refl _), (strP_rd z1 z2).keep strK_K (by decide) (Kp.below (ts := fun _ => False) hBx 1) (fun q => q), gb, rfl⟩
  have HST := Lib.hid (HI.out w g gs ga w3.heap.size _ _ _ hM4 hs4 hk4)
  clear z1 z2 z3 hk2 hk3 hBx hk4 hM4 hs4 hvl
  generalize w3.alloc (.cells #[.slice (some ⟨gb, 0, none⟩) ys.length vc] 38) = v4 at *
  generalize w3.heap.size = ob at *
  go_wp2_with fail
  go_loopw [14, 15] (fun u v wr => ∃ k : Nat, k ≤ 60 ∧ k ≤ xs.length ∧ u = .bool true ∧ v = .int .i64 (k : Int) ∧ FnSt w N g gs ga ob k wr) (fun _ v _ => 60 - (intOf v).toNat)
  case atStart => exact ⟨0, by omega, by omega, rfl, rfl, HST.out⟩
  case round =>
    clear HST
    obtain ⟨k, hk60, hk, rfl, rfl, S, own', D, z, M, G, C, gn, sh, kp⟩ := hrel
    have hb : Below w.heap.size w wr := kp_below kp (by intro h; rcases h with h | h; (have := h.1; omega); omega)
    by_cases hc1 : k < xs.length
    · have dl1 : decide ((k : Int) < (xs.length : Int)) = true := by simp; omega
      by_cases hc2 : k < 60
      · have dl2 : decide ((k : Int) < 60) = true := by simp; omega
        have hlt' : (k : Int) < (xs.length : Int) := by omega
        obtain ⟨x, hx⟩ : ∃ x, xs[k]? = some x := ⟨_, List.getElem?_eq_getElem hc1⟩
        obtain ⟨hw, ad, hA, c0, c1, c2, c3⟩ := (HXS.out.below hb) k x hx
        subst hA
        obtain ⟨G2, C2⟩ := doS_all G C x 3000 (by omega) (by omega) (by omega)
        have HT := Lib.hid (step_ok wr own' 100 g gs ga S M (by omega) G C (by omega) gn (by omega) ob z sh x hw)
        have HNX := Lib.hid (fun (W : World) (o : Nat → Nat) (zz : Sl) (H : SvMem W o 100 g gs ga (doS S x 3000).1) (hs : Shown W o ob zz (vwP (doS S x 3000).1 (doD S D x 3000) 8)) (hk : Kp (kst 100) wr own' W o) => (show FnSt w N g gs ga ob (k + 1) W from ⟨_, o, _, zz, H, G2, C2, GN.act gn x 3000, hs, kp.trans hk⟩))
        have hxe : x.enc = .agg #[.int .i64 x.kind, .int .i64 x.ten, .int .i64 x.nm, .int .i64 x.bytes] := rfl
        rw [hxe] at HT
        clear M G C gn sh kp hb G2 C2 hx hxe
        go_wp2_with (go_at_call 40; (with_reducible refine Calls.mono HT.out ?_); rintro e w5 ⟨rfl, o5, z5, h1, h2, h3⟩; have HE := Lib.hid (HNX.out w5 o5 z5 h1 h2 h3); clear h1 h2 h3)
        exact ⟨⟨k + 1, by omega, by omega, rfl, by go_num, HE.out⟩, by simp [intOf]; omega⟩
      · have dl2 : decide ((k : Int) < 60) = false := by simp; omega
        obtain ⟨zA, zn, zc⟩ := z
        have cz := Blk.cell (i := 0) sh.1 rfl
        unfold Sl.enc at cz
        have HF := Lib.hid (fun (W : World) (hk : Kp (fun _ => False) wr own' W own') => (show FoundP w (.returned (.tuple #[pt gs, pt g, .slice zA zn zc, .bool true])) W from ⟨N, k, g, gs, ga, S, own', D, ⟨zA, zn, zc⟩, rfl, by omega, by omega, hk60, M.keep hk (fun q => q) (fun _ _ _ q => q), G, C, gn, sh.2.2.1.keep strK_K (by decide) hk (fun q => q), sh.2.2.2, kp.trans (hk.mono (fun _ h => h.elim))⟩))
        clear M G C gn sh kp hb
        go_upto_region 11 with (fail)
        refine start_ (n := 8) (S := fun w' => w'.cell? ⟨ob, 0, none⟩ = some (.slice zA zn zc)) (ds := []) #[false, false, false, false, false, false, false, false] (by kernel_rfl) rfl rfl cz (fun hHeld => ?_)
        refine pure_ (i := 0) (N := some 71) (v := ?_) (a' := ?_) #[true, false, false, false, false, false, false, false] rfl rfl (by kernel_rfl) (fun _ _ _ h => h) (Or.inl ⟨by rfl, ?_⟩) ?_ ?_
        rotate_left
        · intro w'
          go_simp
          with_reducible rfl
        rotate_left
        · simp only [Act.put, List.setIfInBounds_toArray, List.set_cons_zero, List.set_cons_succ, i64_w, i32_w]
          rfl
        refine pure_ (i := 1) (N := some 72) (v := ?_) (a' := ?_) #[true, true, false, false, false, false, false, false] rfl rfl (by kernel_rfl) (fun _ _ _ h => h) (Or.inl ⟨by rfl, ?_⟩) ?_ ?_
        rotate_left
        · intro w'
          go_simp
          with_reducible rfl
        rotate_left
        · simp only [Act.put, List.setIfInBounds_toArray, List.set_cons_zero, List.set_cons_succ, i64_w, i32_w]
          rfl
        refine take_ (i := 2) (N := some 73) (v := ?_) (a' := ?_) #[true, true, true, false, false, false, false, false] rfl rfl (by kernel_rfl) (fun _ _ _ h => h) (Or.inl ⟨by rfl, ?_⟩) hHeld ?_ ?_
        rotate_left
        · intro w' s0
          have q1 := s0
          go_simp
          with_reducible rfl
        rotate_left
        · simp only [Act.put, List.setIfInBounds_toArray, List.set_cons_zero, List.set_cons_succ, i64_w, i32_w]
          rfl
        refine pure_ (i := 3) (N := some 74) (v := ?_) (a' := ?_) #[true, true, true, true, false, false, false, false] rfl rfl (by kernel_rfl) (fun _ _ _ h => h) (Or.inl ⟨by rfl, ?_⟩) ?_ ?_
        rotate_left
        · intro w'
          go_simp
          with_reducible rfl
        rotate_left
        · simp only [Act.put, List.setIfInBounds_toArray, List.set_cons_zero, List.set_cons_succ, i64_w, i32_w]
          rfl
        refine pure_ (i := 4) (N := some 4) (v := ?_) (a' := ?_) #[true, true, true, true, true, false, false, false] rfl rfl (by kernel_rfl) (fun _ _ _ h => h) (Or.inl ⟨by rfl, ?_⟩) ?_ ?_
        rotate_left
        · intro w'
          go_simp
          with_reducible rfl
        rotate_left
        · simp only [Act.put, List.setIfInBounds_toArray, List.set_cons_zero, List.set_cons_succ, i64_w, i32_w]
          rfl
        refine pure_ (i := 5) (N := some 5) (v := ?_) (a' := ?_) #[true, true, true, true, true, true, false, false] rfl rfl (by kernel_rfl) (fun _ _ _ h => h) (Or.inl ⟨by rfl, ?_⟩) ?_ ?_
        rotate_left
        · intro w'
          go_simp
          with_reducible rfl
        rotate_left
        · simp only [Act.put, List.setIfInBounds_toArray, List.set_cons_zero, List.set_cons_succ, i64_w, i32_w]
          rfl
        refine pure_ (i := 6) (N := some 6) (v := ?_) (a' := ?_) #[true, true, true, true, true, true, true, false] rfl rfl (by kernel_rfl) (fun _ _ _ h => h) (Or.inl ⟨by rfl, ?_⟩) ?_ ?_
        rotate_left
        · intro w'
          go_simp
          with_reducible rfl
        rotate_left
        · simp only [Act.put, List.setIfInBounds_toArray, List.set_cons_zero, List.set_cons_succ, i64_w, i32_w]
          rfl
        refine pure_ (i := 7) (N := some 7) (v := ?_) (a' := ?_) #[true, true, true, true, true, true, true, true] rfl rfl (by kernel_rfl) (fun _ _ _ h => h) (Or.inl ⟨by rfl, ?_⟩) ?_ ?_
        rotate_left
        · intro w'
          go_simp
          with_reducible rfl
        rotate_left
        · simp only [Act.put, List.setIfInBounds_toArray, List.set_cons_zero, List.set_cons_succ, i64_w, i32_w]
          rfl
        refine done_ (by kernel_rfl) ?_
        go_wp2_with fail
        refine bodyPost_ret (v := .tuple #[pt gs, pt g, .slice zA zn zc, .bool true]) (by simp [results, Tryz.results30, go_sem]) rfl (HF.out _ (Kp.drew (Kp.refl _ _ _)))
    · have dl1 : decide ((k : Int) < (xs.length : Int)) = false := by simp; omega
      obtain ⟨zA, zn, zc⟩ := z
      have cz := Blk.cell (i := 0) sh.1 rfl
      unfold Sl.enc at cz
      have HF := Lib.hid (fun (W : World) (hk : Kp (fun _ => False) wr own' W own') => (show FoundP w (.returned (.tuple #[pt gs, pt g, .slice zA zn zc, .bool true])) W from ⟨N, k, g, gs, ga, S, own', D, ⟨zA, zn, zc⟩, rfl, by omega, by omega, hk60, M.keep hk (fun q => q) (fun _ _ _ q => q), G, C, gn, sh.2.2.1.keep strK_K (by decide) hk (fun q => q), sh.2.2.2, kp.trans (hk.mono (fun _ h => h.elim))⟩))
      clear M G C gn sh kp hb
      go_upto_region 11 with (fail)
      refine start_ (n := 8) (S := fun w' => w'.cell? ⟨ob, 0, none⟩ = some (.slice zA zn zc)) (ds := []) #[false, false, false, false, false, false, false, false] (by kernel_rfl) rfl rfl cz (fun hHeld => ?_)
      refine pure_ (i := 0) (N := some 71) (v := ?_) (a' := ?_) #[true, false, false, false, false, false, false, false] rfl rfl (by kernel_rfl) (fun _ _ _ h => h) (Or.inl ⟨by rfl, ?_⟩) ?_ ?_
      rotate_left
      · intro w'
        go_simp
        with_reducible rfl
      rotate_left
      · simp only [Act.put, List.setIfInBounds_toArray, List.set_cons_zero, List.set_cons_succ, i64_w, i32_w]
        rfl
      refine pure_ (i := 1) (N := some 72) (v := ?_) (a' := ?_) #[true, true, false, false, false, false, false, false] rfl rfl (by kernel_rfl) (fun _ _ _ h => h) (Or.inl ⟨by rfl, ?_⟩) ?_ ?_
      rotate_left
      · intro w'
        go_simp
        with_reducible rfl
      rotate_left
      · simp only [Act.put, List.setIfInBounds_toArray, List.set_cons_zero, List.set_cons_succ, i64_w, i32_w]
        rfl
      refine take_ (i := 2) (N := some 73) (v := ?_) (a' := ?_) #[true, true, true, false, false, false, false, false] rfl rfl (by kernel_rfl) (fun _ _ _ h => h) (Or.inl ⟨by rfl, ?_⟩) hHeld ?_ ?_
      rotate_left
      · intro w' s0
        have q1 := s0
        go_simp
        with_reducible rfl
      rotate_left
      · simp only [Act.put, List.setIfInBounds_toArray, List.set_cons_zero, List.set_cons_succ, i64_w, i32_w]
        rfl
      refine pure_ (i := 3) (N := some 74) (v := ?_) (a' := ?_) #[true, true, true, true, false, false, false, false] rfl rfl (by kernel_rfl) (fun _ _ _ h => h) (Or.inl ⟨by rfl, ?_⟩) ?_ ?_
      rotate_left
      · intro w'
        go_simp
        with_reducible rfl
      rotate_left
      · simp only [Act.put, List.setIfInBounds_toArray, List.set_cons_zero, List.set_cons_succ, i64_w, i32_w]
        rfl
      refine pure_ (i := 4) (N := some 4) (v := ?_) (a' := ?_) #[true, true, true, true, true, false, false, false] rfl rfl (by kernel_rfl) (fun _ _ _ h => h) (Or.inl ⟨by rfl, ?_⟩) ?_ ?_
      rotate_left
      · intro w'
        go_simp
        with_reducible rfl
      rotate_left
      · simp only [Act.put, List.setIfInBounds_toArray, List.set_cons_zero, List.set_cons_succ, i64_w, i32_w]
        rfl
      refine pure_ (i := 5) (N := some 5) (v := ?_) (a' := ?_) #[true, true, true, true, true, true, false, false] rfl rfl (by kernel_rfl) (fun _ _ _ h => h) (Or.inl ⟨by rfl, ?_⟩) ?_ ?_
      rotate_left
      · intro w'
        go_simp
        with_reducible rfl
      rotate_left
      · simp only [Act.put, List.setIfInBounds_toArray, List.set_cons_zero, List.set_cons_succ, i64_w, i32_w]
        rfl
      refine pure_ (i := 6) (N := some 6) (v := ?_) (a' := ?_) #[true, true, true, true, true, true, true, false] rfl rfl (by kernel_rfl) (fun _ _ _ h => h) (Or.inl ⟨by rfl, ?_⟩) ?_ ?_
      rotate_left
      · intro w'
        go_simp
        with_reducible rfl
      rotate_left
      · simp only [Act.put, List.setIfInBounds_toArray, List.set_cons_zero, List.set_cons_succ, i64_w, i32_w]
        rfl
      refine pure_ (i := 7) (N := some 7) (v := ?_) (a' := ?_) #[true, true, true, true, true, true, true, true] rfl rfl (by kernel_rfl) (fun _ _ _ h => h) (Or.inl ⟨by rfl, ?_⟩) ?_ ?_
      rotate_left
      · intro w'
        go_simp
        with_reducible rfl
      rotate_left
      · simp only [Act.put, List.setIfInBounds_toArray, List.set_cons_zero, List.set_cons_succ, i64_w, i32_w]
        rfl
      refine done_ (by kernel_rfl) ?_
      go_wp2_with fail
      refine bodyPost_ret (v := .tuple #[pt gs, pt g, .slice zA zn zc, .bool true]) (by simp [results, Tryz.results30, go_sem]) rfl (HF.out _ (Kp.drew (Kp.refl _ _ _)))
end Go.Proofs.YtmofiicjaldmiaaGreatDoor.SxE
namespace Go.Proofs.YtmofiicjaldmiaaGreatDoor.SxF
open Go.RowKit Go.Shelf Go.Proofs.YtmofiicjaldmiaaGreatDoorW.PrintWords Go.Proofs.YtmofiicjaldmiaaGreatDoorW.PrintLast Go.Proofs.YtmofiicjaldmiaaGreatDoor.SvA Go.Proofs.YtmofiicjaldmiaaGreatDoor.SvB Go.Proofs.YtmofiicjaldmiaaGreatDoor.SvC Go.Proofs.YtmofiicjaldmiaaGreatDoor.SvD Go.Proofs.YtmofiicjaldmiaaGreatDoor.SvE Go.Proofs.YtmofiicjaldmiaaGreatDoor.SvF Go.Proofs.YtmofiicjaldmiaaGreatDoor.SvG Go.Proofs.YtmofiicjaldmiaaGreatDoor.SvH Go.Proofs.YtmofiicjaldmiaaGreatDoor.SvI Go.Proofs.YtmofiicjaldmiaaGreatDoor.SvJ Go.Proofs.YtmofiicjaldmiaaGreatDoor.SvK Go.Proofs.YtmofiicjaldmiaaGreatDoor.SvL Go.Proofs.YtmofiicjaldmiaaGreatDoor.SvM Go.Proofs.YtmofiicjaldmiaaGreatDoor.SvN Go.Proofs.YtmofiicjaldmiaaGreatDoor.SvO Go.Proofs.YtmofiicjaldmiaaGreatDoor.SvP Go.Proofs.YtmofiicjaldmiaaGreatDoor.SvQ Go.Proofs.YtmofiicjaldmiaaGreatDoor.SvR Go.Proofs.YtmofiicjaldmiaaGreatDoor.SvS Go.Proofs.YtmofiicjaldmiaaGreatDoor.SvT Go.Proofs.YtmofiicjaldmiaaGreatDoor.SvU Go.Proofs.YtmofiicjaldmiaaGreatDoor.SvV Go.Proofs.YtmofiicjaldmiaaGreatDoor.SvW Go.Proofs.YtmofiicjaldmiaaGreatDoor.SvX Go.Proofs.YtmofiicjaldmiaaGreatDoor.SvY Go.Proofs.YtmofiicjaldmiaaGreatDoor.SvZ Go.Proofs.YtmofiicjaldmiaaGreatDoor.SwA Go.Proofs.YtmofiicjaldmiaaGreatDoor.SwB Go.Proofs.YtmofiicjaldmiaaGreatDoor.SwC Go.Proofs.YtmofiicjaldmiaaGreatDoor.SwD Go.Proofs.YtmofiicjaldmiaaGreatDoor.SwE Go.Proofs.YtmofiicjaldmiaaGreatDoor.SwF Go.Proofs.YtmofiicjaldmiaaGreatDoor.SwG Go.Proofs.YtmofiicjaldmiaaGreatDoor.SwI Go.Proofs.YtmofiicjaldmiaaGreatDoor.SwJ Go.Proofs.YtmofiicjaldmiaaGreatDoor.SwK Go.Proofs.YtmofiicjaldmiaaGreatDoor.SwH Go.Proofs.YtmofiicjaldmiaaGreatDoor.SwL Go.Proofs.YtmofiicjaldmiaaGreatDoor.SwM Go.Proofs.YtmofiicjaldmiaaGreatDoor.SwN Go.Proofs.YtmofiicjaldmiaaGreatDoor.SwO Go.Proofs.YtmofiicjaldmiaaGreatDoor.SwP Go.Proofs.YtmofiicjaldmiaaGreatDoor.SwQ Go.Proofs.YtmofiicjaldmiaaGreatDoor.SwR Go.Proofs.YtmofiicjaldmiaaGreatDoor.SwS Go.Proofs.YtmofiicjaldmiaaGreatDoor.SwT Go.Proofs.YtmofiicjaldmiaaGreatDoor.SwX Go.Proofs.YtmofiicjaldmiaaGreatDoor.SxA
set_option linter.unusedVariables false
set_option linter.unusedSimpArgs false
open Go.Lib
/-- a copy of bytes of its own -/
def ImgP (w : World) (xs : List Int) (e : Ending) (w' : World) : Prop := ∃ (gb : Nat) (cur : Array Value), e = .returned (.slice (some ⟨gb, 0, none⟩) xs.length xs.length) ∧ w.heap.size ≤ gb ∧ w'.heap[gb]? = some (.cells cur 5 (0, 0)) ∧ xs.length ≤ cur.size ∧ BytesAt w' (some ⟨gb, 0, none⟩) xs.length xs ∧ Below w.heap.size w w'
set_option maxRecDepth 100000 in
set_option maxHeartbeats 1000000 in
theorem image0_ok (w : World) (own : Nat → Nat) (t g : Nat) (b : BS) (H : StA w own t g b) (hp : b.pend = []) (hz : b.safe.length ≤ 140737488350000) (hz0 : 0 < b.safe.length) : Calls Tryz.prog 31 #[pt g] w (ImgP w b.safe) := by
  obtain ⟨zs, zp, ps, hg, hb, hs, hpe, hd⟩ := H
  have hzl := (ow_len hs).1
  have hpl : ps.length = b.pend.length := hd.1
  have hpn := (ow_len hpe).1
  rw [hp] at hpl
  have hC := (ow_len hs).2.2
  obtain ⟨zA, zn, zc⟩ := zs
  dsimp only at hzl hC
  subst hzl
  obtain ⟨pA, pn, pc⟩ := zp
  obtain rfl : pn = 0 := by have := hpn; dsimp only at this; rw [← this]; exact hpl
  have c0 : w.cell? ⟨g, 0, none⟩ = some (.slice zA b.safe.length zc) := Blk.cell (i := 0) hb rfl
  have HB := Lib.hid hb
  have HC := Lib.hid (fun W h => clone_ok zA b.safe zc W h (by omega))
  have HX := Lib.hid hC
  clear hg hb hs hpe hd hC hpn hpl
  go_enter Tryz.func31, Tryz.ntmps31
  go_wp2_with (go_at_call 62; (refine Calls.mono (HC.out _ HX.out) ?_); rintro e w1 ⟨v, rfl, ho, hb1⟩; have c1 : w1.cell? ⟨g, 1, none⟩ = some (.slice pA 0 pc) := Blk.cell (i := 1) (HB.out.below hb1) rfl; have HO := Lib.hid (And.intro ho hb1); clear ho hb1)
  go_loopw [16] (fun i wr => i = .int .i64 0 ∧ wr = w1) (fun _ _ => 0)
  case atStart => exact ⟨rfl, rfl⟩
  case round =>
    obtain ⟨rfl, rfl⟩ := hrel
    obtain ⟨ho, hb1⟩ := HO.out
    obtain ⟨B, m, rfl, h2, h1⟩ := Kd.R_reads ho
    have hB := (Kd.R_bound ho).1
    have hcur := ow_new (own := fun _ => 2) (s := ⟨B, b.safe.length, m⟩) 2 ho
    obtain ⟨gb, hgb⟩ := ow_head hcur hz0
    injection hgb with hgb
    subst hgb
    obtain ⟨cur, k1, k2, k3⟩ := ow_cur hcur
    have HF := Lib.hid (show ImgP w b.safe (.returned (.slice (some ⟨gb, 0, none⟩) b.safe.length b.safe.length)) wr from ⟨gb, cur, rfl, (hB gb rfl).2.1, k1, by rw [k2]; show _ ≤ m * 1; omega, h1, hb1⟩)
    clear ho hb1 h1 hB hcur k1 k2 k3 HO
    go_wp2_with (go_at_call 64; (refine Calls.mono (clip_ok _ _ _ _ h2) ?_); rintro e w2 ⟨rfl, rfl⟩)
    go_ret
    exact HF.out
end Go.Proofs.YtmofiicjaldmiaaGreatDoor.SxF
namespace Go.Proofs.YtmofiicjaldmiaaGreatDoor.SxG
open Go.RowKit Go.Shelf Go.Proofs.YtmofiicjaldmiaaGreatDoorW.PrintWords Go.Proofs.YtmofiicjaldmiaaGreatDoorW.PrintLast Go.Proofs.YtmofiicjaldmiaaGreatDoor.SvA Go.Proofs.YtmofiicjaldmiaaGreatDoor.SvB Go.Proofs.YtmofiicjaldmiaaGreatDoor.SvC Go.Proofs.YtmofiicjaldmiaaGreatDoor.SvD Go.Proofs.YtmofiicjaldmiaaGreatDoor.SvE Go.Proofs.YtmofiicjaldmiaaGreatDoor.SvF Go.Proofs.YtmofiicjaldmiaaGreatDoor.SvG Go.Proofs.YtmofiicjaldmiaaGreatDoor.SvH Go.Proofs.YtmofiicjaldmiaaGreatDoor.SvI Go.Proofs.YtmofiicjaldmiaaGreatDoor.SvJ Go.Proofs.YtmofiicjaldmiaaGreatDoor.SvK Go.Proofs.YtmofiicjaldmiaaGreatDoor.SvL Go.Proofs.YtmofiicjaldmiaaGreatDoor.SvM Go.Proofs.YtmofiicjaldmiaaGreatDoor.SvN Go.Proofs.YtmofiicjaldmiaaGreatDoor.SvO Go.Proofs.YtmofiicjaldmiaaGreatDoor.SvP Go.Proofs.YtmofiicjaldmiaaGreatDoor.SvQ Go.Proofs.YtmofiicjaldmiaaGreatDoor.SvR Go.Proofs.YtmofiicjaldmiaaGreatDoor.SvS Go.Proofs.YtmofiicjaldmiaaGreatDoor.SvT Go.Proofs.YtmofiicjaldmiaaGreatDoor.SvU Go.Proofs.YtmofiicjaldmiaaGreatDoor.SvV Go.Proofs.YtmofiicjaldmiaaGreatDoor.SvW Go.Proofs.YtmofiicjaldmiaaGreatDoor.SvX Go.Proofs.YtmofiicjaldmiaaGreatDoor.SvY Go.Proofs.YtmofiicjaldmiaaGreatDoor.SvZ Go.Proofs.YtmofiicjaldmiaaGreatDoor.SwA Go.Proofs.YtmofiicjaldmiaaGreatDoor.SwB Go.Proofs.YtmofiicjaldmiaaGreatDoor.SwC Go.Proofs.YtmofiicjaldmiaaGreatDoor.SwD Go.Proofs.YtmofiicjaldmiaaGreatDoor.SwE Go.Proofs.YtmofiicjaldmiaaGreatDoor.SwF Go.Proofs.YtmofiicjaldmiaaGreatDoor.SwG Go.Proofs.YtmofiicjaldmiaaGreatDoor.SwI Go.Proofs.YtmofiicjaldmiaaGreatDoor.SwJ Go.Proofs.YtmofiicjaldmiaaGreatDoor.SwK Go.Proofs.YtmofiicjaldmiaaGreatDoor.SwH Go.Proofs.YtmofiicjaldmiaaGreatDoor.SwL Go.Proofs.YtmofiicjaldmiaaGreatDoor.SwM Go.Proofs.YtmofiicjaldmiaaGreatDoor.SwN Go.Proofs.YtmofiicjaldmiaaGreatDoor.SwO Go.Proofs.YtmofiicjaldmiaaGreatDoor.SwP Go.Proofs.YtmofiicjaldmiaaGreatDoor.SwQ Go.Proofs.YtmofiicjaldmiaaGreatDoor.SwR Go.Proofs.YtmofiicjaldmiaaGreatDoor.SwS Go.Proofs.YtmofiicjaldmiaaGreatDoor.SwT Go.Proofs.YtmofiicjaldmiaaGreatDoor.SwX Go.Proofs.YtmofiicjaldmiaaGreatDoor.SxA Go.Proofs.YtmofiicjaldmiaaGreatDoor.SxB Go.Proofs.YtmofiicjaldmiaaGreatDoor.SwY Go.Proofs.YtmofiicjaldmiaaGreatDoor.SwV Go.Proofs.YtmofiicjaldmiaaGreatDoor.SxC Go.Proofs.YtmofiicjaldmiaaGreatDoor.SxD Go.Proofs.YtmofiicjaldmiaaGreatDoor.SxE Go.Proofs.YtmofiicjaldmiaaGreatDoor.SxF
set_option linter.unusedVariables false
set_option linter.unusedSimpArgs false
open Go.Lib
open Go.ChangeShapes Go.WideShapes
/-! whatever is asked -/
def Asked (W : World) (e : Ending) (w' : World) : Prop := ∃ v1 v2 : Value, e = .returned (.tuple #[v1, v2]) ∧ Below W.heap.size W w'
theorem get_any (w : World) (own : Nat → Nat) (t g gs : Nat) (ga : Nat → Nat) (S : SV) (H : SvMem w own t g gs ga S) {n m : Nat} {D : Nat → ByteArray → List Int} (hg : GS S n m) (hc : CS S D) (hn : 8 ≤ n) (W : World) (h : Below w.heap.size w W) (ten : Int) (name : ByteArray) (hs : name.size < 2 ^ 62) :
    Calls Tryz.prog 32 #[pt g, .int .i64 ten, .string name] W (Asked W) := by
  by_cases h0 : errN S ten name = 0
  · have hok : nameOk name = true := by
      cases q : nameOk name
      · unfold errN at h0
        rw [q, if_neg (by decide)] at h0
        exact absurd h0 (by decide)
      · rfl
    unfold errN at h0
    rw [if_pos hok] at h0
    obtain ⟨i, hi, rfl, _⟩ := errS_ok h0
    rcases ho : oldS (S.ar i) name with _ | p
    · refine (get_miss W _ t g gs ga S (H.below h) hg i hi name hok ho).mono ?_
      rintro e w' ⟨rfl, hb⟩
      exact ⟨_, _, rfl, hb⟩
    · refine (SwR.get_at w own t g gs ga S H hg hc hn W h i hi name hok (by rw [ho]; rfl)).mono ?_
      rintro e w' ⟨z, o, rfl, _, _, hb⟩
      exact ⟨_, _, rfl, hb⟩
  · refine (get_no W _ t g gs ga S (H.below h) ten name hs h0).mono ?_
    rintro e w' ⟨rfl, hb⟩
    exact ⟨_, _, rfl, hb⟩
theorem list_any (w : World) (own : Nat → Nat) (t g gs : Nat) (ga : Nat → Nat) (S : SV) (H : SvMem w own t g gs ga S) {n m : Nat} (hg : GS S n m) (W : World) (h : Below w.heap.size w W) (ten : Int) : Calls Tryz.prog 25 #[pt g, .int .i64 ten] W (Asked W) := by
  by_cases h0 : errS S ten = 0
  · obtain ⟨i, hi, rfl, _⟩ := errS_ok h0
    refine (list_at w own t g gs ga S H hg W h i hi).mono ?_
    rintro e w' ⟨z, o, l, rfl, _, _, hb, _⟩
    exact ⟨_, _, rfl, hb⟩
  · refine (list_no W _ t g gs ga S (H.below h) ten h0).mono ?_
    rintro e w' ⟨rfl, rfl⟩
    exact ⟨_, _, rfl, Below.refl _ _⟩
theorem used_any (w : World) (own : Nat → Nat) (t g gs : Nat) (ga : Nat → Nat) (S : SV) (H : SvMem w own t g gs ga S) {n m : Nat} (hg : GS S n m) (W : World) (h : Below w.heap.size w W) (ten : Int) : Calls Tryz.prog 20 #[pt g, .int .i64 ten] W (Asked W) := by
  by_cases h0 : errS S ten = 0
  · obtain ⟨i, hi, rfl, _⟩ := errS_ok h0
    refine (used_at w own t g gs ga S H hg W h i hi).mono ?_
    rintro e w' ⟨rfl, hb⟩
    exact ⟨_, _, rfl, hb⟩
  · refine (used_no W _ t g gs ga S (H.below h) ten h0).mono ?_
    rintro e w' ⟨rfl, rfl⟩
    exact ⟨_, _, rfl, Below.refl _ _⟩
def neverS : ByteArray := ⟨#[110, 101, 118, 101, 114]⟩
theorem never_none {S : SV} (h : GN S) {i : Nat} (hi : i < 8) : oldS (S.ar i) neverS = none := by
  rcases ho : oldS (S.ar i) neverS with _ | ⟨k, e⟩
  · rfl
  · obtain ⟨h1, h2⟩ := oldS_name ho
    obtain ⟨n, hn, h3⟩ := h i hi e (List.mem_of_getElem? h2)
    rw [h3] at h1
    rcases (show n = 0 ∨ n = 1 ∨ n = 2 ∨ n = 3 ∨ n = 4 ∨ n = 5 by omega) with rfl | rfl | rfl | rfl | rfl | rfl <;> exact absurd h1 (by decide)
theorem del_never (w : World) (own : Nat → Nat) (t g gs : Nat) (ga : Nat → Nat) (S : SV) (H : SvMem w own t g gs ga S) {n m : Nat} (hg : GS S n m) (hN : GN S) (W : World) (h : Below w.heap.size w W) (i : Nat) (hi : i < 8) :
    Calls Tryz.prog 26 #[pt g, .int .i64 ((i : Int) + 1), .string neverS] W fun e w' => e = .returned (.int .i64 111) ∧ Below W.heap.size W w' :=
  delete_none W _ t g gs ga S (H.below h) i hi neverS (by decide) hg.dead (by decide) (by have := (hg.aok i hi).el; omega) (oldS_none (never_none hN hi))
def aS : ByteArray := ⟨#[97]⟩
theorem bigA (s : ByteArray) : nameOk ((⟨#[65]⟩ : ByteArray) ++ s) = false := by
  have h : ((⟨#[65]⟩ : ByteArray) ++ s).data.toList = 65 :: s.data.toList := by simp [ByteArray.data_append]
  unfold nameOk
  rw [h, List.all_cons, show okc 65 = false by decide]
  simp
theorem put_refused (w : World) (own : Nat → Nat) (t g gs : Nat) (ga : Nat → Nat) (S : SV) (H : SvMem w own t g gs ga S) (W : World) (h : Below w.heap.size w W) (ten : Int) (name : ByteArray) (hs : name.size < 2 ^ 62) (A : Option Addr) (k c : Nat) (hk : k ≤ 131072) (he : errN S ten name = 1) :
    Calls Tryz.prog 23 #[pt g, .int .i64 ten, .string name, .slice A k c] W fun e w' => e = .returned (.int .i64 1) ∧ Below W.heap.size W w' := by
  have := put_no W _ t g gs ga S (H.below h) ten name hs A k c hk (by rw [he]; decide)
  rwa [he] at this
/-- names in memory -/
def StsAt (w : World) (A : Option Addr) (ns : List ByteArray) : Prop := ∀ (k : Nat) (s : ByteArray), ns[k]? = some s → s.size < 2 ^ 40 ∧ ∃ ad : Addr, A = some ad ∧ w.cell? (ad.add k) = some (.string s)
theorem StsAt.below {w w' : World} {A : Option Addr} {ns : List ByteArray} (h : StsAt w A ns) (hb : Below w.heap.size w w') : StsAt w' A ns := fun k s hx => by
  obtain ⟨h1, ad, h2, h3⟩ := h k s hx
  exact ⟨h1, ad, h2, cellOf hb h3⟩
theorem one_le {H : Type} (d : DataW H) : 1 ≤ Rows.uptoBulk d := by
  cases d with
  | lit l => cases l <;> simp [Rows.uptoBulk]
  | nil => simp [Rows.uptoBulk]
  | ptr d => simp [Rows.uptoBulk]
  | slice elems spare => simp [Rows.uptoBulk]
  | agg parts => simp [Rows.uptoBulk]
  | iface t d => simp [Rows.uptoBulk]
  | map entries => simp [Rows.uptoBulk]
  | held h => simp [Rows.uptoBulk]
theorem part_le {H : Type} {d : DataW H} {l : List (DataW H)} (h : d ∈ l) : Rows.uptoBulk d ≤ Rows.uptoBulkAll l := by
  induction l with
  | nil => cases h
  | cons x r ih =>
    simp only [Rows.uptoBulkAll]
    cases List.mem_cons.1 h with
    | inl e => subst e; omega
    | inr e => have := ih e; omega
theorem bound {H : Type} {l : List (DataW H)} (hk : Rows.uptoSmall H l = true) : Rows.uptoBulkAll l ≤ 1048576 := of_decide_eq_true hk
set_option maxRecDepth 100000 in
theorem open_names {H : Type} {enc : TypeId × Value → H} {W : World} {v : Value} {d : DataW H} {p : List MemPlace} (hv : Value.okWide Tryz.prog W .any 0 38 v) (h : DataW.Trod enc Tryz.prog W 0 (fun _ => true) true 38 v d p) (hb : Rows.uptoBulk d ≤ 1048576) :
    ∃ (A : Option Addr) (c : Nat) (ns : List ByteArray), v = .slice A ns.length c ∧ StsAt W A ns ∧ ns.length ≤ c ∧ ns.length ≤ 9223372036854775807 := by
  obtain ⟨A, n, c, rfl⟩ := okWide_slice Tryz.underlying38 hv
  obtain ⟨fuel, hf⟩ := h
  rcases open_strings Tryz.underlying38 Tryz.underlying9 (by kernel_rfl) hf with ⟨hcs, _⟩ | ⟨a, len, cap, ss, hcs, _, hl, hm, hz, hx, hcell, hsz⟩
  · simp [Value.cells] at hcs
    obtain ⟨rfl, rfl, rfl⟩ := hcs
    exact ⟨none, 0, [], rfl, fun k s h => by simp at h, by simp, by simp⟩
  · simp [Value.cells] at hcs
    obtain ⟨rfl, rfl, rfl⟩ := hcs
    have hzl : ss.length = c := by simpa using hz
    have hlen : (ss.take n).length = n := by rw [List.length_take]; omega
    unfold maxLen at hm
    refine ⟨some a, c, ss.take n, by rw [hlen], fun k s hk => ?_, by omega, by omega⟩
    have hkn : k < n := by have := (List.getElem?_eq_some_iff.1 hk).1; omega
    have hmem : s ∈ ss.take n := List.mem_of_getElem? hk
    rw [List.getElem?_take_of_lt hkn] at hk
    have hbs : s.size < 2 ^ 40 := by
      injection hx with hx _
      subst hx
      simp only [Rows.uptoBulk] at hb
      have h1 := part_le (show (DataW.lit (.string s.data.toList) : DataW H) ∈ strs (ss.take n) from List.mem_map.2 ⟨s, hmem, rfl⟩)
      simp only [Rows.uptoBulk] at h1
      have h2 : s.data.toList.length = s.size := rfl
      omega
    refine ⟨hbs, a, rfl, ?_⟩
    rw [hcell k (by omega), List.getD_eq_getElem?_getD, hk]
    rfl
-- quiet walk
set_option maxRecDepth 100000 in
set_option maxHeartbeats 4000000 in
theorem quiet_walk (a0 : Int) (A : Option Addr) (c : Nat) (xs : List AC) (B : Option Addr) (d : Nat) (ns : List ByteArray) (a3 : Int) (h0 : i64s a0) (h3 : i64s a3) (w : World) (hxs : AcAt w A xs) (hc : xs.length ≤ c) (hl : xs.length ≤ 9223372036854775807) (hns : StsAt w B ns) (hd : ns.length ≤ d) (hnl : ns.length ≤ 9223372036854775807) :
    Calls Tryz.prog 7 #[.int .i64 a0, .slice A xs.length c, .slice B ns.length d, .int .i64 a3] w fun e w' => e = .returned (.bool true) ∧ Below w.heap.size w w' := by
  have HF := Lib.hid (founded_ok a0 A c xs h0 w hxs hc hl)
  obtain ⟨p8, hp8⟩ : ∃ p : Nat, pk a3 8 = (p : Int) := ⟨(pk a3 8).toNat, by have := pk_bd a3 8 (by omega); omega⟩
  have hp8b : p8 < 8 := by have := pk_bd a3 8 (by omega); omega
  have HP8 := Lib.hid (fun W => pick_ok a3 8 W h3 (by omega) (by omega))
  rw [hp8] at HP8
  obtain ⟨pm, hpm⟩ : ∃ p : Nat, pk a3 1000 = (p : Int) := ⟨(pk a3 1000).toNat, by have := pk_bd a3 1000 (by omega); omega⟩
  have hpmb : pm < 1000 := by have := pk_bd a3 1000 (by omega); omega
  have HPM := Lib.hid (fun W => pick_ok a3 1000 W h3 (by omega) (by omega))
  rw [hpm] at HPM
  clear hp8 hpm
  have HNS := Lib.hid hns
  clear hxs hns
  go_enter Tryz.func7, Tryz.ntmps7
  go_upto_region 4 with (go_at_call 30; (with_reducible refine Calls.mono HF.out ?_); rintro e w1 ⟨N, k, g, gs, ga, S, o1, D, ⟨zA, zn, zc⟩, rfl, hN1, hN2, hk, M, G, C, gn, hz, hzA, kp⟩; have HALL := Lib.hid (And.intro M (And.intro G (And.intro C (And.intro gn (And.intro hz (And.intro hzA kp)))))); clear M G C gn hz hzA kp; unfold Sl.enc)
  obtain ⟨M, G, C, gn, hz, ⟨zb, hzA⟩, kp⟩ := HALL.out
  try dsimp only at hzA
  subst hzA
  have hb1 : Below w.heap.size w w1 := kp_below kp (by intro h; rcases h with h | h; (have := h.1; omega); omega)
  have hbn : S.b.safe.length / 512 = N := G.bn
  have hIM : ∀ W, Below w1.heap.size w1 W → Calls Tryz.prog 31 #[pt gs] W (ImgP W S.b.safe) := fun W h => image0_ok W _ 100 gs S.b (M.below h).st G.pend (by have := G.bok.fit.hz; omega) (by omega)
  have hPE : ∀ W, Below w1.heap.size w1 W → Calls Tryz.prog 34 #[pt gs] W fun e w' => e = .returned (.int .i64 0) ∧ W = w' := fun W h => by
    have := SvH.pending_ok W _ 100 gs S.b (M.below h).st
    rwa [G.pend] at this
  have hGET : ∀ W, Below w1.heap.size w1 W → ∀ (ten : Int) (name : ByteArray), name.size < 2 ^ 62 → Calls Tryz.prog 32 #[pt g, .int .i64 ten, .string name] W (Asked W) := fun W h ten name hs => get_any w1 o1 100 g gs ga S M G C (by omega) W h ten name hs
  have hLI : ∀ W, Below w1.heap.size w1 W → ∀ (ten : Int), Calls Tryz.prog 25 #[pt g, .int .i64 ten] W (Asked W) := fun W h ten => list_any w1 o1 100 g gs ga S M G W h ten
  have hUS : ∀ W, Below w1.heap.size w1 W → ∀ (ten : Int), Calls Tryz.prog 20 #[pt g, .int .i64 ten] W (Asked W) := fun W h ten => used_any w1 o1 100 g gs ga S M G W h ten
  have hPA : ∀ W, Below w1.heap.size w1 W → Calls Tryz.prog 23 #[pt g, .int .i64 (9 + (pm : Int)), .string { data := #[97] }, .slice none 0 0] W fun e w' => e = .returned (.int .i64 1) ∧ Below W.heap.size W w' := fun W h => put_refused w1 o1 100 g gs ga S M W h _ _ (by decide) none 0 0 (by omega) (by
    unfold errN errS
    rw [if_pos (by decide), if_pos (by omega)])
  have hPB : ∀ W, Below w1.heap.size w1 W → ∀ s : ByteArray, (({ data := #[65] } : ByteArray) ++ s).size < 2 ^ 62 → Calls Tryz.prog 23 #[pt g, .int .i64 1, .string ({ data := #[65] } ++ s), .slice none 0 0] W fun e w' => e = .returned (.int .i64 1) ∧ Below W.heap.size W w' := fun W h s hs => put_refused w1 o1 100 g gs ga S M W h _ _ hs none 0 0 (by omega) (by
    unfold errN
    rw [bigA, if_neg (by decide)])
  have hDN : ∀ W, Below w1.heap.size w1 W → Calls Tryz.prog 26 #[pt g, .int .i64 (1 + (p8 : Int)), .string { data := #[110, 101, 118, 101, 114] }] W fun e w' => e = .returned (.int .i64 111) ∧ Below W.heap.size W w' := fun W h => by
    have := del_never w1 o1 100 g gs ga S M G gn W h p8 hp8b
    rwa [show ((p8 : Int) + 1) = 1 + (p8 : Int) by omega] at this
  have hVW : ∀ W, Below w1.heap.size w1 W → Calls Tryz.prog 21 #[pt g] W (ViewP W (vwP S D 8)) := fun W h => view_ok W _ 100 g gs ga S (M.below h) G C (by omega) gn
  have hvl : (vwP S D 8).length = 48 := vwP_len _ _ _
  have hzn : (vwP S D 8).length = zn := hz.1.1
  have hsh : SsAt w1 (some ⟨zb, 0, none⟩) (vwP S D 8) := fun j x hx => by
    have hj := (List.getElem?_eq_some_iff.1 hx).1
    obtain ⟨ad, e1, e2⟩ := sc_at hz.1 j (by dsimp only; omega) x hx
    injection e1 with e1
    subst e1
    rw [Go.Proofs.YtmofiicjaldmiaaGreatDoorW.PrintWords.add_plain] at e2
    exact ⟨zb, rfl, e2⟩
  generalize vwP S D 8 = vs at *
  subst hzn
  generalize S.b.safe = im at *
  have HIM := Lib.hid hIM
  have HPE := Lib.hid hPE
  have HG := Lib.hid hGET
  have HLI := Lib.hid hLI
  have HUS := Lib.hid hUS
  have HPA := Lib.hid hPA
  have HPB := Lib.hid hPB
  have HDN := Lib.hid hDN
  have HVW := Lib.hid hVW
  have HVL := Lib.hid hvl
  have HSH := Lib.hid hsh
  have HB1 := Lib.hid hb1
  clear hIM hPE hGET hLI hUS hPA hPB hDN hVW hvl hsh hb1 M G C gn hz kp hbn HALL
  go_upto_region 5 with (go_at_call 31; (with_reducible refine Calls.mono (HIM.out _ (Below.refl _ _)) ?_); rintro e w2 ⟨gb, cur, rfl, i1, i2, i3, i4, i5⟩; have hcv := conv_str (w := w2) (c := im.length) i4; have HB2 := Lib.hid i5; clear i1 i2 i3 i4 i5)
  clear hcv
  have hst : strOfNums im = strOfNums im := rfl
  generalize he : strOfNums im = ims at *
  have HST := Lib.hid he
  clear he hst
  go_wp2_with fail
  go_loopw [14, 15, 16, 17, 18] (fun v _ _ _ _ wr => ∃ k : Nat, k ≤ 30 ∧ k ≤ ns.length ∧ v = .int .i64 (k : Int) ∧ Below w1.heap.size w1 wr) (fun v _ _ _ _ _ => 30 - (intOf v).toNat)
  case atStart => exact ⟨0, by omega, by omega, rfl, HB2.out⟩
  case round =>
    obtain ⟨k, hk30, hk, rfl, hb⟩ := hrel
    have HBR := Lib.hid hb
    clear hb
    by_cases hc1 : k < ns.length
    · have dl1 : decide ((k : Int) < (ns.length : Int)) = true := by simp; omega
      by_cases hc2 : k < 30
      · have dl2 : decide ((k : Int) < 30) = true := by simp; omega
        have hlt' : (k : Int) < (ns.length : Int) := by omega
        obtain ⟨s, hs⟩ : ∃ s, ns[k]? = some s := ⟨_, List.getElem?_eq_getElem hc1⟩
        obtain ⟨hsz, ad, hA, c0⟩ := ((HNS.out.below HB1.out).below HBR.out) k s hs
        subst hA
        have hs62 : s.size < 2 ^ 62 := by omega
        clear hs
        go_upto_region 9 with (go_at_call 32; (with_reducible refine Calls.mono (HG.out _ HBR.out a3 s hs62) ?_); rintro e w3 ⟨v1, v2, rfl, b3⟩; have c1 := cellOf b3 c0; have HB3 := Lib.hid (HBR.out.trans (b3.mono HBR.out.size)); clear b3 c0)
        refine start_ (n := 9) (S := fun w' => w'.cell? (ad.add k) = some (.string s)) (ds := [8]) #[false, false, false, false, false, false, false, false, false] (by kernel_rfl) rfl rfl c1 (fun hHeld => ?_)
        refine pure_ (i := 0) (N := some 52) (v := ?_) (a' := ?_) #[true, false, false, false, false, false, false, false, false] rfl rfl (by kernel_rfl) (fun _ _ _ h => h) (Or.inl ⟨by rfl, ?_⟩) ?_ ?_
        rotate_left
        · intro w'
          go_simp
          with_reducible rfl
        rotate_left
        · simp only [Act.put, List.setIfInBounds_toArray, List.set_cons_zero, List.set_cons_succ, i64_w, i32_w]
          rfl
        refine pure_ (i := 1) (N := some 53) (v := ?_) (a' := ?_) #[true, true, false, false, false, false, false, false, false] rfl rfl (by kernel_rfl) (fun _ _ _ h => h) (Or.inl ⟨by rfl, ?_⟩) ?_ ?_
        rotate_left
        · intro w'
          go_simp
          with_reducible rfl
        rotate_left
        · simp only [Act.put, List.setIfInBounds_toArray, List.set_cons_zero, List.set_cons_succ, i64_w, i32_w]
          rfl
        refine pure_ (i := 4) (N := some 56) (v := ?_) (a' := ?_) #[true, true, false, false, true, false, false, false, false] rfl rfl (by kernel_rfl) (fun _ _ _ h => h) (Or.inl ⟨by rfl, ?_⟩) ?_ ?_
        rotate_left
        · intro w'
          go_simp
          with_reducible rfl
        rotate_left
        · simp only [Act.put, List.setIfInBounds_toArray, List.set_cons_zero, List.set_cons_succ, i64_w, i32_w]
          rfl
        refine pure_ (i := 5) (N := some 57) (v := ?_) (a' := ?_) #[true, true, false, false, true, true, false, false, false] rfl rfl (by kernel_rfl) (fun _ _ _ h => h) (Or.inl ⟨by rfl, ?_⟩) ?_ ?_
        rotate_left
        · intro w'
          go_simp
          with_reducible rfl
        rotate_left
        · simp only [Act.put, List.setIfInBounds_toArray, List.set_cons_zero, List.set_cons_succ, i64_w, i32_w]
          rfl
        refine pure_ (i := 6) (N := some 58) (v := ?_) (a' := ?_) #[true, true, false, false, true, true, true, false, false] rfl rfl (by kernel_rfl) (fun _ _ _ h => h) (Or.inl ⟨by rfl, ?_⟩) ?_ ?_
        rotate_left
        · intro w'
          go_simp
          with_reducible rfl
        rotate_left
        · simp only [Act.put, List.setIfInBounds_toArray, List.set_cons_zero, List.set_cons_succ, i64_w, i32_w]
          rfl
        refine take_ (i := 7) (N := some 59) (v := ?_) (a' := ?_) #[true, true, false, false, true, true, true, true, false] rfl rfl (by kernel_rfl) (fun _ _ _ h => h) (Or.inl ⟨by rfl, ?_⟩) hHeld ?_ ?_
        rotate_left
        · intro w' s0
          have q1 := s0
          go_simp
          with_reducible rfl
        rotate_left
        · simp only [Act.put, List.setIfInBounds_toArray, List.set_cons_zero, List.set_cons_succ, i64_w, i32_w]
          rfl
        refine one_ (i := 2) (N := some 54) #[true, true, true, false, true, true, true, true, false] rfl rfl (by kernel_rfl) (by decide) (fun K hK => ?_)
        refine goes_ Tryz.func15 (by kernel_rfl) rfl #[.int .i64 a3, .int .i64 8] (by first | rfl | (simp [Act.eval]; done)) rfl rfl (by first | rfl | (simp [Act.eval]; done)) ?_
        refine Calls.mono (HP8.out _) ?_
        rintro e w4 ⟨rfl, rfl⟩
        refine ⟨_, rfl, ?_⟩
        refine hK.out _ _ hHeld (fun hHeld => ?_)
        clear hK K
        refine norm_ (a' := ?_) ?_ ?_
        rotate_left
        · show Act.put _ (some 54) _ = _
          simp only [Act.put, List.setIfInBounds_toArray, List.set_cons_zero, List.set_cons_succ, i64_w, i32_w]
          rfl
        refine pure_ (i := 3) (N := some 55) (v := ?_) (a' := ?_) #[true, true, true, true, true, true, true, true, false] rfl rfl (by kernel_rfl) (fun _ _ _ h => h) (Or.inl ⟨by rfl, ?_⟩) ?_ ?_
        rotate_left
        · intro w'
          go_simp
          with_reducible rfl
        rotate_left
        · simp only [Act.put, List.setIfInBounds_toArray, List.set_cons_zero, List.set_cons_succ, i64_w, i32_w]
          rfl
        refine last_ (i := 8) (N := some 60) #[true, true, true, true, true, true, true, true, true] rfl rfl (by kernel_rfl) (by decide) (fun K hK => ?_)
        refine goes_ Tryz.func32 (by kernel_rfl) rfl #[pt g, .int .i64 (wrap64 (1 + (p8 : Int))), .string s] (by first | rfl | (simp [Act.eval]; done)) rfl rfl (by first | rfl | (simp [Act.eval]; done)) ?_
        refine Calls.mono (HG.out _ HB3.out.drew (wrap64 (1 + (p8 : Int))) s hs62) ?_
        rintro e w4 ⟨v3, v4, rfl, b4⟩
        refine ⟨_, rfl, ?_⟩
        refine hK.out _ _ ?_
        clear hK K
        refine norm_ (a' := ?_) ?_ ?_
        rotate_left
        · show Act.put _ (some 60) _ = _
          simp only [Act.put, List.setIfInBounds_toArray, List.set_cons_zero, List.set_cons_succ, i64_w, i32_w]
          rfl
        refine done_ (by kernel_rfl) ?_
        have c2 := cellOf b4 (show w3.drew.cell? (ad.add k) = some (.string s) from c1)
        have HB4 := Lib.hid (HB3.out.drew.trans (b4.mono HB3.out.size))
        clear b4 c1 hHeld
        have hsA : (({ data := #[65] } : ByteArray) ++ s).size < 2 ^ 62 := by rw [ByteArray.size_append]; show 1 + s.size < _; omega
        go_upto_region 15 with (first
          | (go_at_call 25; (with_reducible refine Calls.mono (HLI.out _ HB4.out a3) ?_); rintro e w5 ⟨v5, v6, rfl, b5⟩; have c3 := cellOf b5 c2; have HB5 := Lib.hid (HB4.out.trans (b5.mono HB4.out.size)); clear b5)
          | (go_at_call 20; (with_reducible refine Calls.mono (HUS.out _ HB5.out a3) ?_); rintro e w6 ⟨v7, v8, rfl, b6⟩; have c4 := cellOf b6 c3; have HB6 := Lib.hid (HB5.out.trans (b6.mono HB5.out.size)); clear b6)
          | (go_at_call 15; (with_reducible refine (HPM.out _).mono ?_); rintro e w' ⟨rfl, rfl⟩)
          | (go_at_call 15; (with_reducible refine (HP8.out _).mono ?_); rintro e w' ⟨rfl, rfl⟩)
          | (go_at_call 23; (with_reducible refine Calls.mono (HPA.out _ HB6.out) ?_); rintro e w7 ⟨rfl, b7⟩; have c5 := cellOf b7 c4; have HB7 := Lib.hid (HB6.out.trans (b7.mono HB6.out.size)); clear b7)
          | (go_at_call 23; (with_reducible refine Calls.mono (HPB.out _ HB7.out s hsA) ?_); rintro e w8 ⟨rfl, b8⟩; have HB8 := Lib.hid (HB7.out.trans (b8.mono HB7.out.size)); clear b8)
          | (go_at_call 26; (with_reducible refine Calls.mono (HDN.out _ HB8.out) ?_); rintro e w9 ⟨rfl, b9⟩; have HB9 := Lib.hid (HB8.out.trans (b9.mono HB8.out.size)); clear b9))
        have hPL : ∀ (W : World) (A : Option Addr), Calls Tryz.prog 23 #[pt g, .int .i64 1, .string { data := #[97] }, .slice A 131073 131073] W fun e w' => e = .returned (.int .i64 1) ∧ W = w' := fun W A => put_long W _ _ _ A 131073 131073 (by omega)
        have hmk : ∀ W : World, (Instr.makeSlice 43 (.int .i64 131073) (.int .i64 131073)).run Tryz.prog W = .ok (.slice (some ⟨W.heap.size, 0, none⟩) 131073 131073) (W.alloc (.cells (madeCells #[.int .u8 0] 131073) 5)) := print_make (P := Tryz.prog) 43 5 .u8 1 Tryz.underlying43 info5 (by decide) 131073 (by omega)
        generalize madeCells #[.int .u8 0] 131073 = mc at *
        have hBX := HB9.out.trans ((ba (w := w9) (.cells mc 5)).mono HB9.out.size)
        have HPL := Lib.hid hPL
        have HBX := Lib.hid hBX
        clear hPL hBX
        go_wp2_with (go_at_call 23; (with_reducible refine Calls.mono (HPL.out _ _) ?_); rintro e w' ⟨rfl, rfl⟩)
        exact ⟨⟨k + 1, by omega, by omega, by go_num, HBX.out⟩, by simp [intOf]; omega⟩
      · have dl2 : decide ((k : Int) < 30) = false := by simp; omega
        go_upto_region 20 with (first
          | (go_at_call 21; (with_reducible refine Calls.mono (HVW.out _ HBR.out) ?_); rintro e w6 ⟨⟨vA, vn, vc⟩, vo, rfl, z1, z2, z3⟩; have HX6 := Lib.hid (ss_of z1); obtain rfl : vs.length = vn := (ow_len z1).1; have HB6 := Lib.hid (HBR.out.trans (z3.mono HBR.out.size)); have HS6 := Lib.hid (HSH.out.below HB6.out); clear z1 z2 z3; unfold Sl.enc)
          | (go_at_call 33; (with_reducible refine Calls.mono (same_ok _ _ _ _ _ vs vs HX6.out HS6.out (by have := HVL.out; omega) (by have := HVL.out; omega)) ?_); rintro e w7 ⟨rfl, hb7⟩; have HB7 := Lib.hid (HB6.out.trans (hb7.mono HB6.out.size)); clear hb7))
        have dv : decide (vs = vs) = true := by simp
        go_wp2_with (first
          | (go_at_call 31; (with_reducible refine Calls.mono (HIM.out _ HB7.out) ?_); rintro e w8 ⟨gb8, cur8, rfl, i1, i2, i3, i4, i5⟩; have hcv := conv_str (w := w8) (c := im.length) i4; rw [HST.out] at hcv; have HB8 := Lib.hid (HB7.out.trans (i5.mono HB7.out.size)); clear i1 i2 i3 i4 i5)
          | (go_at_call 34; (with_reducible refine Calls.mono (HPE.out _ HB8.out) ?_); rintro e w' ⟨rfl, rfl⟩))
        go_ret
        exact ⟨rfl, HB1.out.trans (HB8.out.mono HB1.out.size)⟩
    · have dl1 : decide ((k : Int) < (ns.length : Int)) = false := by simp; omega
      go_upto_region 20 with (first
        | (go_at_call 21; (with_reducible refine Calls.mono (HVW.out _ HBR.out) ?_); rintro e w6 ⟨⟨vA, vn, vc⟩, vo, rfl, z1, z2, z3⟩; have HX6 := Lib.hid (ss_of z1); obtain rfl : vs.length = vn := (ow_len z1).1; have HB6 := Lib.hid (HBR.out.trans (z3.mono HBR.out.size)); have HS6 := Lib.hid (HSH.out.below HB6.out); clear z1 z2 z3; unfold Sl.enc)
        | (go_at_call 33; (with_reducible refine Calls.mono (same_ok _ _ _ _ _ vs vs HX6.out HS6.out (by have := HVL.out; omega) (by have := HVL.out; omega)) ?_); rintro e w7 ⟨rfl, hb7⟩; have HB7 := Lib.hid (HB6.out.trans (hb7.mono HB6.out.size)); clear hb7))
      have dv : decide (vs = vs) = true := by simp
      go_wp2_with (first
        | (go_at_call 31; (with_reducible refine Calls.mono (HIM.out _ HB7.out) ?_); rintro e w8 ⟨gb8, cur8, rfl, i1, i2, i3, i4, i5⟩; have hcv := conv_str (w := w8) (c := im.length) i4; rw [HST.out] at hcv; have HB8 := Lib.hid (HB7.out.trans (i5.mono HB7.out.size)); clear i1 i2 i3 i4 i5)
        | (go_at_call 34; (with_reducible refine Calls.mono (HPE.out _ HB8.out) ?_); rintro e w' ⟨rfl, rfl⟩))
      go_ret
      exact ⟨rfl, HB1.out.trans (HB8.out.mono HB1.out.size)⟩
end Go.Proofs.YtmofiicjaldmiaaGreatDoor.SxG
