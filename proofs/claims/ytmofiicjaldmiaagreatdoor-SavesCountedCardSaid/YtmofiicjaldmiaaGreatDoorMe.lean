/- Texts of Saves: SavesAgain, the walk -/
import Derived.Test.YtmofiicjaldmiaaGreatDoorMd
import Derived.Deep.Slices
import Derived.Deep.Fields
import Derived.ChangeSame
import Derived.Lib.SmallJoins
namespace Go.Proofs.YtmofiicjaldmiaaGreatDoor.SwS
open Go.RowKit Go.Shelf Go.Proofs.YtmofiicjaldmiaaGreatDoorW.PrintWords Go.Proofs.YtmofiicjaldmiaaGreatDoorW.PrintLast Go.Proofs.YtmofiicjaldmiaaGreatDoor.SvA Go.Proofs.YtmofiicjaldmiaaGreatDoor.SvB Go.Proofs.YtmofiicjaldmiaaGreatDoor.SvC Go.Proofs.YtmofiicjaldmiaaGreatDoor.SvD Go.Proofs.YtmofiicjaldmiaaGreatDoor.SvE Go.Proofs.YtmofiicjaldmiaaGreatDoor.SvF Go.Proofs.YtmofiicjaldmiaaGreatDoor.SvG Go.Proofs.YtmofiicjaldmiaaGreatDoor.SvH Go.Proofs.YtmofiicjaldmiaaGreatDoor.SvI Go.Proofs.YtmofiicjaldmiaaGreatDoor.SvJ Go.Proofs.YtmofiicjaldmiaaGreatDoor.SvK Go.Proofs.YtmofiicjaldmiaaGreatDoor.SvL Go.Proofs.YtmofiicjaldmiaaGreatDoor.SvM Go.Proofs.YtmofiicjaldmiaaGreatDoor.SvN Go.Proofs.YtmofiicjaldmiaaGreatDoor.SvO Go.Proofs.YtmofiicjaldmiaaGreatDoor.SvP Go.Proofs.YtmofiicjaldmiaaGreatDoor.SvQ Go.Proofs.YtmofiicjaldmiaaGreatDoor.SvR Go.Proofs.YtmofiicjaldmiaaGreatDoor.SvS Go.Proofs.YtmofiicjaldmiaaGreatDoor.SvT Go.Proofs.YtmofiicjaldmiaaGreatDoor.SvU Go.Proofs.YtmofiicjaldmiaaGreatDoor.SvV Go.Proofs.YtmofiicjaldmiaaGreatDoor.SvW Go.Proofs.YtmofiicjaldmiaaGreatDoor.SvX Go.Proofs.YtmofiicjaldmiaaGreatDoor.SvY Go.Proofs.YtmofiicjaldmiaaGreatDoor.SvZ Go.Proofs.YtmofiicjaldmiaaGreatDoor.SwA Go.Proofs.YtmofiicjaldmiaaGreatDoor.SwB Go.Proofs.YtmofiicjaldmiaaGreatDoor.SwC Go.Proofs.YtmofiicjaldmiaaGreatDoor.SwD Go.Proofs.YtmofiicjaldmiaaGreatDoor.SwE Go.Proofs.YtmofiicjaldmiaaGreatDoor.SwF Go.Proofs.YtmofiicjaldmiaaGreatDoor.SwG Go.Proofs.YtmofiicjaldmiaaGreatDoor.SwI Go.Proofs.YtmofiicjaldmiaaGreatDoor.SwJ Go.Proofs.YtmofiicjaldmiaaGreatDoor.SwK Go.Proofs.YtmofiicjaldmiaaGreatDoor.SwH Go.Proofs.YtmofiicjaldmiaaGreatDoor.SwL Go.Proofs.YtmofiicjaldmiaaGreatDoor.SwM Go.Proofs.YtmofiicjaldmiaaGreatDoor.SwN Go.Proofs.YtmofiicjaldmiaaGreatDoor.SwO Go.Proofs.YtmofiicjaldmiaaGreatDoor.SwP Go.Proofs.YtmofiicjaldmiaaGreatDoor.SwQ Go.Proofs.YtmofiicjaldmiaaGreatDoor.SwR
set_option linter.unusedVariables false
set_option linter.unusedSimpArgs false
open Go.Lib
abbrev again : ByteArray := ⟨#[97, 103, 97, 105, 110]⟩
theorem list_one {w w' : World} {es : List EN} {e : Ending} (h : ListP w es e w') {x : EN} (hx : es = [x]) : ∃ b c, e = .returned (.tuple #[.slice (some ⟨b, 0, none⟩) 1 c, .int .i64 0]) ∧ w'.cell? ⟨b, 0, none⟩ = some (.string x.hd.name) ∧ w'.cell? ⟨b, 1, none⟩ = some (.int .i64 x.hd.ver) ∧ w'.cell? ⟨b, 2, none⟩ = some (.int .i64 x.hd.size) ∧ Below w.heap.size w w' := by
  obtain ⟨z, o, l, rfl, h1, h2, h3, h4, h5⟩ := h
  subst hx
  have hl : l = [infoS x] := List.perm_singleton.1 h4
  subst hl
  have hn : z.n = 1 := (ow_len h1).1.symm
  obtain ⟨gb, hz⟩ := ow_head h1 (by omega)
  obtain ⟨A, n, c⟩ := z
  injection hz with hA _ _
  subst hA
  dsimp only at hn
  subst hn
  obtain ⟨cur, c1, c2, c3, c4, c5, c6⟩ := ow_in h1
  exact ⟨gb, c, rfl, Blk.cell c1 (c6 0 (by omega)), Blk.cell c1 (c6 1 (by omega)), Blk.cell c1 (c6 2 (by omega)), h3⟩
theorem sect_ok (w : World) (own : Nat → Nat) (t gs : Nat) (b : BS) (H : StA w own t gs b) (hz : b.safe.length < 2 ^ 40) : Calls Tryz.prog 22 #[pt gs] w fun e w' => e = .returned (.int .i64 (b.n : Int)) ∧ w = w' := by
  obtain ⟨zs, zp, ps, hg, hbs, hs, hpe, hd⟩ := H
  have hzl : zs.n = b.safe.length := (ow_len hs).1.symm
  have h := sectors_ok w gs zs _ _ _ hbs (by rw [hzl]; exact hz)
  rw [hzl] at h
  exact h
theorem kp_zero {ts : Nat → Prop} {w w' : World} (h : Below w.heap.size w w') : Kp ts w (fun _ => 0) w' (fun _ => 0) := ⟨h.os, h.tape, h.output, h.size, fun k hk _ => ⟨rfl, h.block k hk⟩⟩
/-- behind k puts -/
def AgP (S : SV) (i : Nat) (k n : Nat) : Prop := (k = 0 ∧ (S.ar i).ents = []) ∨ (0 < k ∧ Alone S i again (k : Int) n)
theorem ag_put {S : SV} {N m i k n : Nat} (hg : GS S N m) (hi : i < 8) (h : AgP S i k n) (data : List Int) (hd : data.length = n) (hr : 1 < (S.ar i).heads ∧ many n + many n ≤ (S.ar i).sec - (S.ar i).heads) : (putR S i again data).2 = 0 ∧ Alone (putR S i again data).1 i again ((k + 1 : Nat) : Int) n := by
  subst hd
  rcases h with ⟨rfl, h⟩ | ⟨hk, h⟩
  · exact alone_first hg hi h again data ⟨by omega, by omega⟩
  · exact alone_next hg hi h data hr
theorem ag_del {S : SV} {N m i : Nat} (hg : GS S N m) (hi : i < 8) {v : Int} {n : Nat} (h : Alone S i again v n) : (delR S i again).2 = 0 ∧ ((delR S i again).1.ar i).ents = [] := by
  obtain ⟨e, h1, h2, h3, h4⟩ := h
  unfold delR
  rw [← h2, oldS_one h1]
  refine ⟨rfl, ?_⟩
  show ((delS S i 0 e).ar i).ents = []
  rw [delS_eq, setE_ar, if_pos rfl, h1]
  rfl
/-- how the law stands at the head of a round -/
def AgSt (w : World) (N g gs : Nat) (ga : Nat → Nat) (i n : Nat) (k : Nat) (wr : World) : Prop := ∃ S own' D, SvMem wr own' 100 g gs ga S ∧ GS S N k ∧ CS S D ∧ AgP S i k n ∧ (∀ j, (S.ar j).heads = (N / 8 + 7) / 8 ∧ (S.ar j).sec = N / 8) ∧ Kp (k20 100) w (fun _ => 0) wr own'
end Go.Proofs.YtmofiicjaldmiaaGreatDoor.SwS
namespace Go.Proofs.YtmofiicjaldmiaaGreatDoor.SwT
open Go.RowKit Go.Shelf Go.Proofs.YtmofiicjaldmiaaGreatDoorW.PrintWords Go.Proofs.YtmofiicjaldmiaaGreatDoorW.PrintLast Go.Proofs.YtmofiicjaldmiaaGreatDoor.SvA Go.Proofs.YtmofiicjaldmiaaGreatDoor.SvB Go.Proofs.YtmofiicjaldmiaaGreatDoor.SvC Go.Proofs.YtmofiicjaldmiaaGreatDoor.SvD Go.Proofs.YtmofiicjaldmiaaGreatDoor.SvE Go.Proofs.YtmofiicjaldmiaaGreatDoor.SvF Go.Proofs.YtmofiicjaldmiaaGreatDoor.SvG Go.Proofs.YtmofiicjaldmiaaGreatDoor.SvH Go.Proofs.YtmofiicjaldmiaaGreatDoor.SvI Go.Proofs.YtmofiicjaldmiaaGreatDoor.SvJ Go.Proofs.YtmofiicjaldmiaaGreatDoor.SvK Go.Proofs.YtmofiicjaldmiaaGreatDoor.SvL Go.Proofs.YtmofiicjaldmiaaGreatDoor.SvM Go.Proofs.YtmofiicjaldmiaaGreatDoor.SvN Go.Proofs.YtmofiicjaldmiaaGreatDoor.SvO Go.Proofs.YtmofiicjaldmiaaGreatDoor.SvP Go.Proofs.YtmofiicjaldmiaaGreatDoor.SvQ Go.Proofs.YtmofiicjaldmiaaGreatDoor.SvR Go.Proofs.YtmofiicjaldmiaaGreatDoor.SvS Go.Proofs.YtmofiicjaldmiaaGreatDoor.SvT Go.Proofs.YtmofiicjaldmiaaGreatDoor.SvU Go.Proofs.YtmofiicjaldmiaaGreatDoor.SvV Go.Proofs.YtmofiicjaldmiaaGreatDoor.SvW Go.Proofs.YtmofiicjaldmiaaGreatDoor.SvX Go.Proofs.YtmofiicjaldmiaaGreatDoor.SvY Go.Proofs.YtmofiicjaldmiaaGreatDoor.SvZ Go.Proofs.YtmofiicjaldmiaaGreatDoor.SwA Go.Proofs.YtmofiicjaldmiaaGreatDoor.SwB Go.Proofs.YtmofiicjaldmiaaGreatDoor.SwC Go.Proofs.YtmofiicjaldmiaaGreatDoor.SwD Go.Proofs.YtmofiicjaldmiaaGreatDoor.SwE Go.Proofs.YtmofiicjaldmiaaGreatDoor.SwF Go.Proofs.YtmofiicjaldmiaaGreatDoor.SwG Go.Proofs.YtmofiicjaldmiaaGreatDoor.SwI Go.Proofs.YtmofiicjaldmiaaGreatDoor.SwJ Go.Proofs.YtmofiicjaldmiaaGreatDoor.SwK Go.Proofs.YtmofiicjaldmiaaGreatDoor.SwH Go.Proofs.YtmofiicjaldmiaaGreatDoor.SwL Go.Proofs.YtmofiicjaldmiaaGreatDoor.SwM Go.Proofs.YtmofiicjaldmiaaGreatDoor.SwN Go.Proofs.YtmofiicjaldmiaaGreatDoor.SwO Go.Proofs.YtmofiicjaldmiaaGreatDoor.SwP Go.Proofs.YtmofiicjaldmiaaGreatDoor.SwQ Go.Proofs.YtmofiicjaldmiaaGreatDoor.SwR Go.Proofs.YtmofiicjaldmiaaGreatDoor.SwS
set_option linter.unusedVariables false
set_option linter.unusedSimpArgs false
open Go.ChangeShapes Go.WideShapes Go.Deep Go.Lib Go.Joins
section
variable {H : Type} {enc : TypeId × Value → H} {P : Program} {w : World} {base : Nat} {spare : Nat → Bool} {held : Bool}
theorem open_slice_fields {t e : TypeId} {fs : Array Field} {fuel : Nat} {cs : List Value} {x : DataW H × List MemPlace} (ht : P.underlying t = some (.slice e)) (he : P.underlying e = some (.struct fs))
    (hone : oneCellFields P fs = true) (hC : P.cellsOf e = fs.size) (h : DataW.trod enc P w base spare held fuel t cs = some x) :
    (cs = [.slice none 0 0] ∧ x = (.nil, [])) ∨
    ∃ (a : Addr) (len cap m : Nat) (D : Nat → DataW H) (Pl : Nat → List MemPlace), cs = [.slice (some a) len cap] ∧ base ≤ a.block ∧ len ≤ cap ∧ cap ≤ maxLen ∧ m = (if spare a.block then cap else len) ∧
      x = (.slice ((List.range len).map D) ((List.range (m - len)).map fun j => D (len + j)), MemPlace.row a (m * fs.size) ++ (List.range m).flatMap Pl) ∧
      ∀ i, i < m → ∃ (ys : List (DataW H × List MemPlace)) (n : Nat), D i = .agg (ys.map (·.1)) ∧ Pl i = ys.flatMap (·.2) ∧ ys.length = fs.size ∧
        ∀ (j : Nat) (f : Field), fs[j]? = some f → ∃ (v : Value) (y : DataW H × List MemPlace), w.cell? (a.add (i * fs.size + j)) = some v ∧ ys[j]? = some y ∧ DataW.trod enc P w base spare held n f.type [v] = some y := by
  rcases open_slice ht h with h0 | ⟨a, len, cap, m, n, D, Pl, hcs, hb, hl, hm, hmm, hx, hi⟩
  · exact .inl h0
  · refine .inr ⟨a, len, cap, m, D, Pl, hcs, hb, hl, hm, hmm, by rw [hC] at hx; exact hx, fun i him => ?_⟩
    obtain ⟨cs', hc, ht'⟩ := hi i him
    rw [hC] at hc
    obtain ⟨ys, n', hn', hy, hlen, hyl, hf⟩ := DataW.trod_struct he ht'
    obtain ⟨_, hcl, hat⟩ := World.cells?_some hc
    simp only [Prod.mk.injEq] at hy
    refine ⟨ys, n', hy.1, hy.2, hyl, fun j f hj => ?_⟩
    obtain ⟨ho, hk⟩ := hone_of hone j f hj
    have hjl : j < fs.size := (Array.getElem?_eq_some_iff.1 hj).1
    have hcell := hat j hjl
    have hv : cs'[j]? = some (cs'[j]'(by omega)) := List.getElem?_eq_getElem (by omega)
    have h1 := hf j f hj
    rw [ho, hk] at h1
    have hone' : (cs'.drop j).take 1 = [cs'[j]'(by omega)] := by
      rw [List.drop_eq_getElem_cons (by omega)]
      rfl
    rw [hone'] at h1
    have hys : ys[j]? = some (ys[j]'(by omega)) := List.getElem?_eq_getElem (by omega)
    refine ⟨_, _, ?_, hys, h1.trans hys⟩
    rw [← Go.Deep.add_add, hcell, hv]
end
/-- acts in memory -/
def AcAt (w : World) (A : Option Addr) (xs : List AC) : Prop := ∀ (k : Nat) (x : AC), xs[k]? = some x → x.wf ∧ ∃ ad : Addr, A = some ad ∧ w.cell? (ad.add (k * 4)) = some (.int .i64 x.kind) ∧ w.cell? ⟨(ad.add (k * 4)).block, (ad.add (k * 4)).off + 1, none⟩ = some (.int .i64 x.ten) ∧
  w.cell? ⟨(ad.add (k * 4)).block, (ad.add (k * 4)).off + 2, none⟩ = some (.int .i64 x.nm) ∧ w.cell? ⟨(ad.add (k * 4)).block, (ad.add (k * 4)).off + 3, none⟩ = some (.int .i64 x.bytes)
theorem AcAt.below {w w' : World} {A : Option Addr} {xs : List AC} (h : AcAt w A xs) (hb : Below w.heap.size w w') : AcAt w' A xs := fun k x hx => by
  obtain ⟨h0, ad, h1, h2, h3, h4, h5⟩ := h k x hx
  exact ⟨h0, ad, h1, cellOf hb h2, cellOf hb h3, cellOf hb h4, cellOf hb h5⟩
theorem wf_i64 {n : Int} (h : (Lit.int .i64 n).wf = true) : i64s n := by
  simp [Lit.wf, IntKind.min, IntKind.max, IntKind.signed, IntKind.bits] at h
  exact ⟨by omega, by omega⟩
theorem add_field (x : Addr) (s j : Nat) (hj : 0 < j) : x.add (s + j) = ⟨(x.add s).block, (x.add s).off + j, none⟩ := by
  rw [← Go.Deep.add_add]
  generalize x.add s = y
  unfold Addr.add
  rw [if_neg (by omega)]
set_option maxRecDepth 100000 in
theorem open_acts {H : Type} {enc : TypeId × Value → H} {W : World} {v : Value} {d : DataW H} {p : List MemPlace} (hv : Value.okWide Tryz.prog W .any 0 22 v) (h : DataW.Trod enc Tryz.prog W 0 (fun _ => true) true 22 v d p) :
    ∃ (A : Option Addr) (c : Nat) (xs : List AC), v = .slice A xs.length c ∧ AcAt W A xs ∧ xs.length ≤ c ∧ xs.length ≤ 9223372036854775807 := by
  obtain ⟨A, n, c, rfl⟩ := okWide_slice Tryz.underlying22 hv
  obtain ⟨fuel, hf⟩ := h
  rcases open_slice_fields Tryz.underlying22 Tryz.underlying33 (by kernel_rfl) (by kernel_rfl) hf with ⟨hcs, _⟩ | ⟨a, len, cap, m, D, Pl, hcs, _, hl, hm, hmm, hx, hi⟩
  · simp [Value.cells] at hcs
    obtain ⟨rfl, rfl, rfl⟩ := hcs
    exact ⟨none, 0, [], rfl, (fun k x hx => by simp at hx), by simp, by simp⟩
  · simp [Value.cells] at hcs
    obtain ⟨rfl, rfl, rfl⟩ := hcs
    have hcm : c = m := by rw [hmm]; simp
    have hone : ∀ i, ∃ x : AC, i < n → x.wf ∧ W.cell? (a.add (i * 4)) = some (.int .i64 x.kind) ∧ W.cell? ⟨(a.add (i * 4)).block, (a.add (i * 4)).off + 1, none⟩ = some (.int .i64 x.ten) ∧ W.cell? ⟨(a.add (i * 4)).block, (a.add (i * 4)).off + 2, none⟩ = some (.int .i64 x.nm) ∧ W.cell? ⟨(a.add (i * 4)).block, (a.add (i * 4)).off + 3, none⟩ = some (.int .i64 x.bytes) := fun i => by
      by_cases hin : i < n
      · obtain ⟨ys, k, hD, _, hys, hf⟩ := hi i (by omega)
        obtain ⟨v0, y0, c0, _, t0⟩ := hf 0 _ rfl
        obtain ⟨v1, y1, c1, _, t1⟩ := hf 1 _ rfl
        obtain ⟨v2, y2, c2, _, t2⟩ := hf 2 _ rfl
        obtain ⟨v3, y3, c3, _, t3⟩ := hf 3 _ rfl
        obtain ⟨n0, e0, _, w0⟩ := DataW.trod_int (k := .i64) Tryz.underlying3 t0
        obtain ⟨n1, e1, _, w1⟩ := DataW.trod_int (k := .i64) Tryz.underlying3 t1
        obtain ⟨n2, e2, _, w2⟩ := DataW.trod_int (k := .i64) Tryz.underlying3 t2
        obtain ⟨n3, e3, _, w3⟩ := DataW.trod_int (k := .i64) Tryz.underlying3 t3
        simp at e0 e1 e2 e3
        subst e0 e1 e2 e3
        exact ⟨⟨n0, n1, n2, n3⟩, fun _ => ⟨⟨wf_i64 w0, wf_i64 w1, wf_i64 w2, wf_i64 w3⟩, c0, by rw [← add_field _ _ 1 (by omega)]; exact c1, by rw [← add_field _ _ 2 (by omega)]; exact c2, by rw [← add_field _ _ 3 (by omega)]; exact c3⟩⟩
      · exact ⟨⟨0, 0, 0, 0⟩, fun h => absurd h hin⟩
    obtain ⟨g, hg⟩ := Classical.axiomOfChoice hone
    have hlen : ((List.range n).map g).length = n := by simp
    refine ⟨some a, c, (List.range n).map g, by rw [hlen], fun k x hx => ?_, by rw [hlen]; exact hl, by rw [hlen]; unfold maxLen at hm; omega⟩
    have hjn : k < n := by
      have := (List.getElem?_eq_some_iff.1 hx).1
      omega
    rw [List.getElem?_map, List.getElem?_range hjn] at hx
    simp at hx
    subst hx
    obtain ⟨g0, g1, g2, g3, g4⟩ := hg k hjn
    exact ⟨g0, a, rfl, g1, g2, g3, g4⟩
set_option maxRecDepth 100000 in
theorem open_act {H : Type} {enc : TypeId × Value → H} {W : World} {v : Value} {d : DataW H} {p : List MemPlace} (hv : Value.okWide Tryz.prog W .any 0 33 v) (h : DataW.Trod enc Tryz.prog W 0 (fun _ => true) true 33 v d p) :
    ∃ x : AC, v = x.enc ∧ x.wf := by
  obtain ⟨v0, v1, v2, v3, y0, y1, y2, y3, n, rfl, _, _, h0, h1, h2, h3⟩ := open_agg4 Tryz.underlying33 (by kernel_rfl) (by kernel_rfl) hv h
  obtain ⟨n0, e0, _, w0⟩ := DataW.trod_int (k := .i64) Tryz.underlying3 h0
  obtain ⟨n1, e1, _, w1⟩ := DataW.trod_int (k := .i64) Tryz.underlying3 h1
  obtain ⟨n2, e2, _, w2⟩ := DataW.trod_int (k := .i64) Tryz.underlying3 h2
  obtain ⟨n3, e3, _, w3⟩ := DataW.trod_int (k := .i64) Tryz.underlying3 h3
  simp at e0 e1 e2 e3
  subst e0 e1 e2 e3
  exact ⟨⟨n0, n1, n2, n3⟩, rfl, wf_i64 w0, wf_i64 w1, wf_i64 w2, wf_i64 w3⟩
theorem does_at (w : World) (own : Nat → Nat) (t g gs : Nat) (ga : Nat → Nat) (S : SV) (H : SvMem w own t g gs ga S) (ht : t ≠ 0) {n m : Nat} (hg : GS S n m) (hm : m + 1 < 4294967296) (W : World) (h : Below w.heap.size w W) (a : AC) (ha : a.wf) (most : Int) (h1 : 1 ≤ most) (h2 : most ≤ 100000) :
    Calls Tryz.prog 18 #[a.enc, pt g, .int .i64 most] W (ActR w own t g gs ga (doS S a most)) := by
  refine (does_ok W (tagged w own 0) t g gs ga S (H.below h) ht n m hg hm a ha most h1 h2).mono ?_
  intro e w' hr
  exact ActR.back hr (Kp.below h 0)
def doD (S : SV) (D : Nat → ByteArray → List Int) (a : AC) (most : Int) : Nat → ByteArray → List Int := if a.puts = true ∧ roomS (S.ar a.t0) (a.data most).length = true then putD D a.t0 a.name (a.data most) else D
theorem doS_all {S : SV} {n m : Nat} {D : Nat → ByteArray → List Int} (h : GS S n m) (hc : CS S D) (a : AC) (most : Int) (h1 : 1 ≤ most) (h2 : most ≤ 100000) (hm : m + 1 < 4294967296) : GS (doS S a most).1 n (m + 1) ∧ CS (doS S a most).1 (doD S D a most) := by
  unfold doS doD
  cases hp : a.puts
  · rw [if_neg (by decide), if_neg (by simp)]
    obtain ⟨x, y⟩ := delR_all h hc a.t0 a.t0_lt.1 a.name
    exact ⟨x.mono (by omega), y⟩
  · rw [if_pos rfl]
    have := putR_all h hc a.t0 a.t0_lt.1 a.name (AC.name_ok a) (a.data most) (dataS_u8 _ _) (by rw [AC.data_len]; have := (a.len_lt most (by omega)).1; omega) hm
    refine ⟨this.1, ?_⟩
    cases hr : roomS (S.ar a.t0) (a.data most).length
    · rw [hr] at this
      rw [if_neg (by simp)]
      exact this.2
    · rw [hr] at this
      rw [if_pos ⟨rfl, rfl⟩]
      exact this.2
theorem doS_put {S : SV} {a : AC} {most : Int} (hp : a.puts = true) : (doS S a most).2 = if roomS (S.ar a.t0) (a.len most) then 0 else 112 := by
  unfold doS putR
  rw [if_pos hp, AC.data_len]
  split <;> rfl
end Go.Proofs.YtmofiicjaldmiaaGreatDoor.SwT
namespace Go.Proofs.YtmofiicjaldmiaaGreatDoor.SwV
open Go.RowKit Go.Shelf Go.Proofs.YtmofiicjaldmiaaGreatDoorW.PrintWords Go.Proofs.YtmofiicjaldmiaaGreatDoorW.PrintLast Go.Proofs.YtmofiicjaldmiaaGreatDoor.SvA Go.Proofs.YtmofiicjaldmiaaGreatDoor.SvB Go.Proofs.YtmofiicjaldmiaaGreatDoor.SvC Go.Proofs.YtmofiicjaldmiaaGreatDoor.SvD Go.Proofs.YtmofiicjaldmiaaGreatDoor.SvE Go.Proofs.YtmofiicjaldmiaaGreatDoor.SvF Go.Proofs.YtmofiicjaldmiaaGreatDoor.SvG Go.Proofs.YtmofiicjaldmiaaGreatDoor.SvH Go.Proofs.YtmofiicjaldmiaaGreatDoor.SvI Go.Proofs.YtmofiicjaldmiaaGreatDoor.SvJ Go.Proofs.YtmofiicjaldmiaaGreatDoor.SvK Go.Proofs.YtmofiicjaldmiaaGreatDoor.SvL Go.Proofs.YtmofiicjaldmiaaGreatDoor.SvM Go.Proofs.YtmofiicjaldmiaaGreatDoor.SvN Go.Proofs.YtmofiicjaldmiaaGreatDoor.SvO Go.Proofs.YtmofiicjaldmiaaGreatDoor.SvP Go.Proofs.YtmofiicjaldmiaaGreatDoor.SvQ Go.Proofs.YtmofiicjaldmiaaGreatDoor.SvR Go.Proofs.YtmofiicjaldmiaaGreatDoor.SvS Go.Proofs.YtmofiicjaldmiaaGreatDoor.SvT Go.Proofs.YtmofiicjaldmiaaGreatDoor.SvU Go.Proofs.YtmofiicjaldmiaaGreatDoor.SvV Go.Proofs.YtmofiicjaldmiaaGreatDoor.SvW Go.Proofs.YtmofiicjaldmiaaGreatDoor.SvX Go.Proofs.YtmofiicjaldmiaaGreatDoor.SvY Go.Proofs.YtmofiicjaldmiaaGreatDoor.SvZ Go.Proofs.YtmofiicjaldmiaaGreatDoor.SwA Go.Proofs.YtmofiicjaldmiaaGreatDoor.SwB Go.Proofs.YtmofiicjaldmiaaGreatDoor.SwC Go.Proofs.YtmofiicjaldmiaaGreatDoor.SwD Go.Proofs.YtmofiicjaldmiaaGreatDoor.SwE Go.Proofs.YtmofiicjaldmiaaGreatDoor.SwF Go.Proofs.YtmofiicjaldmiaaGreatDoor.SwG Go.Proofs.YtmofiicjaldmiaaGreatDoor.SwI Go.Proofs.YtmofiicjaldmiaaGreatDoor.SwJ Go.Proofs.YtmofiicjaldmiaaGreatDoor.SwK Go.Proofs.YtmofiicjaldmiaaGreatDoor.SwH Go.Proofs.YtmofiicjaldmiaaGreatDoor.SwL Go.Proofs.YtmofiicjaldmiaaGreatDoor.SwM Go.Proofs.YtmofiicjaldmiaaGreatDoor.SwN Go.Proofs.YtmofiicjaldmiaaGreatDoor.SwO Go.Proofs.YtmofiicjaldmiaaGreatDoor.SwP Go.Proofs.YtmofiicjaldmiaaGreatDoor.SwQ Go.Proofs.YtmofiicjaldmiaaGreatDoor.SwR Go.Proofs.YtmofiicjaldmiaaGreatDoor.SwS Go.Proofs.YtmofiicjaldmiaaGreatDoor.SwT
set_option linter.unusedVariables false
set_option linter.unusedSimpArgs false
open Go.Lib Go.Sort
def verE (es : List EN) (name : ByteArray) : Int := match es.find? (fun e => e.hd.name == name) with | some e => e.hd.ver | none => 0
theorem bax {a b : ByteArray} (h : a ≠ b) : (a == b) = false := by
  rw [Bool.eq_false_iff]
  exact fun q => h ((ba_beq _ _).1 q)
theorem bay (a : ByteArray) : (a == a) = true := (ba_beq _ _).2 rfl
theorem find_none {es : List EN} {name : ByteArray} (h : ∀ e ∈ es, e.hd.name ≠ name) : es.find? (fun e => e.hd.name == name) = none := by
  rw [List.find?_eq_none]
  intro e he
  rw [bax (h e he)]
  decide
theorem verE_none {es : List EN} {name : ByteArray} (h : ∀ e ∈ es, e.hd.name ≠ name) : verE es name = 0 := by unfold verE; rw [find_none h]
theorem verE_mem : ∀ {es : List EN} {e : EN}, (es.map (·.hd.name)).Nodup → e ∈ es → verE es e.hd.name = e.hd.ver := by
  intro es
  induction es with
  | nil => intro e _ he; cases he
  | cons x es ih =>
    intro e hn he
    rw [List.map_cons, List.nodup_cons] at hn
    unfold verE
    rw [List.find?_cons]
    rcases List.mem_cons.1 he with he | he
    · subst he
      rw [bay]
    · have hne : x.hd.name ≠ e.hd.name := fun q => hn.1 (by rw [q]; exact List.mem_map.2 ⟨e, he, rfl⟩)
      rw [bax hne]
      exact ih hn.2 he
theorem verE_snoc (es : List EN) (e : EN) (name : ByteArray) (h : e.hd.name ≠ name) : verE (es ++ [e]) name = verE es name := by
  unfold verE
  rw [List.find?_append]
  have : [e].find? (fun e => e.hd.name == name) = none := find_none (fun x hx => by simp at hx; subst hx; exact h)
  rw [this, Option.or_none]
theorem find_erase : ∀ {es : List EN} {k : Nat} {e : EN} {name : ByteArray}, es[k]? = some e → e.hd.name ≠ name → (es.eraseIdx k).find? (fun e => e.hd.name == name) = es.find? (fun e => e.hd.name == name) := by
  intro es
  induction es with
  | nil => intro k e name h _; simp at h
  | cons x es ih =>
    intro k e name h hne
    cases k with
    | zero =>
      simp at h
      subst h
      rw [List.eraseIdx_cons_zero, List.find?_cons, bax hne]
    | succ k =>
      rw [List.eraseIdx_cons_succ, List.find?_cons, List.find?_cons]
      rw [ih (by simpa using h) hne]
theorem verE_erase {es : List EN} {k : Nat} {e : EN} {name : ByteArray} (h : es[k]? = some e) (hne : e.hd.name ≠ name) : verE (es.eraseIdx k) name = verE es name := by
  unfold verE
  rw [find_erase h hne]
/-- what the versions are behind an act -/
theorem ver_put {S : SV} {n m i : Nat} (hg : GS S n m) (hi : i < 8) (name : ByteArray) (data : List Int) (hr : roomS (S.ar i) data.length = true) (j : Nat) (x : ByteArray) :
    verE ((putR S i name data).1.ar j).ents x = if j = i ∧ x = name then verE (S.ar i).ents name + 1 else verE (S.ar j).ents x := by
  have H := hg.ar i hi
  unfold putR
  rw [if_pos hr]
  dsimp only
  by_cases hj : j = i
  · subst hj
    rw [put_ents]
    generalize hE : newE (S.ar j) ((j : Int) + 1) name (verN (oldS (S.ar j) name)) data = E
    have E1 : E.hd.name = name := by rw [← hE]; rfl
    have E2 : E.hd.ver = verN (oldS (S.ar j) name) := by rw [← hE]; rfl
    by_cases hx : x = name
    · rw [if_pos ⟨rfl, hx⟩, hx]
      have hno : ∀ e ∈ oldE (oldS (S.ar j) name) (S.ar j).ents, e.hd.name ≠ name := by
        rcases ho : oldS (S.ar j) name with _ | ⟨k, y⟩
        · exact oldS_no ho
        · obtain ⟨o1, o2⟩ := oldS_name ho
          have := erase_name (f := fun e : EN => e.hd.name) H.nd o2
          rw [← o1]
          exact this
      have h1 : verE (oldE (oldS (S.ar j) name) (S.ar j).ents ++ [E]) name = E.hd.ver := by
        unfold verE
        rw [List.find?_append, find_none hno, Option.none_or, List.find?_cons, E1, bay]
      rw [h1, E2]
      rcases ho : oldS (S.ar j) name with _ | ⟨k, y⟩
      · rw [verE_none (oldS_no ho)]; rfl
      · obtain ⟨o1, o2⟩ := oldS_name ho
        have := verE_mem H.nd (List.mem_of_getElem? o2)
        rw [o1] at this
        rw [this]
        rfl
    · rw [if_neg (fun q => hx q.2), verE_snoc _ _ _ (by rw [E1]; exact fun q => hx q.symm)]
      rcases ho : oldS (S.ar j) name with _ | ⟨k, y⟩
      · rfl
      · obtain ⟨o1, o2⟩ := oldS_name ho
        exact verE_erase o2 (by rw [o1]; exact fun q => hx q.symm)
  · rw [if_neg (fun q => hj q.1), putS_eq, setE_ar, if_neg hj]
    rfl
theorem ver_del {S : SV} {n m i : Nat} (hg : GS S n m) (hi : i < 8) (name : ByteArray) (j : Nat) (x : ByteArray) (h0 : (delR S i name).2 = 0) :
    verE ((delR S i name).1.ar j).ents x = if j = i ∧ x = name then 0 else verE (S.ar j).ents x := by
  have H := hg.ar i hi
  unfold delR at h0 ⊢
  rcases ho : oldS (S.ar i) name with _ | ⟨k, y⟩
  · rw [ho] at h0; cases h0
  · obtain ⟨o1, o2⟩ := oldS_name ho
    dsimp only
    rw [delS_eq, setE_ar]
    by_cases hj : j = i
    · subst hj
      rw [if_pos rfl]
      dsimp only
      by_cases hx : x = name
      · rw [if_pos ⟨rfl, hx⟩, hx]
        refine verE_none (fun e he => ?_)
        have := erase_name (f := fun e : EN => e.hd.name) H.nd o2 e he
        rw [← o1]
        exact this
      · rw [if_neg (fun q => hx q.2)]
        exact verE_erase o2 (by rw [o1]; exact fun q => hx q.symm)
    · rw [if_neg hj, if_neg (fun q => hj q.1)]
      rfl
theorem delR_no {S : SV} {i : Nat} {name : ByteArray} (h : (delR S i name).2 ≠ 0) : (delR S i name).1 = S ∧ (delR S i name).2 = 111 := by
  unfold delR at h ⊢
  rcases ho : oldS (S.ar i) name with _ | ⟨k, y⟩
  · exact ⟨rfl, rfl⟩
  · rw [ho] at h; exact absurd rfl h
/-- the versions, by a table of 48 -/
def Cnt (S : SV) (cs : List Int) : Prop := cs.length = 48 ∧ ∀ t n, t < 8 → n < 6 → cs[6 * t + n]? = some (verE (S.ar t).ents (nmS n))
theorem nmS_inj {a b : Nat} (ha : a < 6) (hb : b < 6) (h : nmS a = nmS b) : a = b := by
  rcases (show a = 0 ∨ a = 1 ∨ a = 2 ∨ a = 3 ∨ a = 4 ∨ a = 5 by omega) with rfl | rfl | rfl | rfl | rfl | rfl <;> rcases (show b = 0 ∨ b = 1 ∨ b = 2 ∨ b = 3 ∨ b = 4 ∨ b = 5 by omega) with rfl | rfl | rfl | rfl | rfl | rfl <;> first | rfl | (revert h; decide)
/-- what the table is behind an act that says r -/
def cntS (cs : List Int) (a : AC) (r : Int) : List Int := if r = 0 then (if a.puts then cs.set (6 * a.t0 + a.n0) ((cs[6 * a.t0 + a.n0]?).getD 0 + 1) else cs.set (6 * a.t0 + a.n0) 0) else cs
theorem Cnt.act {S : SV} {n m : Nat} (hg : GS S n m) {cs : List Int} (h : Cnt S cs) (a : AC) (most : Int) (hm : 0 < most) : Cnt (doS S a most).1 (cntS cs a (doS S a most).2) := by
  have ht := a.t0_lt.1
  have hn := a.n0_lt.1
  have hset : ∀ v (t n : Nat), t < 8 → n < 6 → (cs.set (6 * a.t0 + a.n0) v)[6 * t + n]? = if t = a.t0 ∧ n = a.n0 then some v else cs[6 * t + n]? := by
    intro v t n h1 h2
    by_cases he : t = a.t0 ∧ n = a.n0
    · rw [if_pos he, he.1, he.2, List.getElem?_set_self (by rw [h.1]; omega)]
    · rw [if_neg he, List.getElem?_set_ne (by omega)]
  unfold doS cntS
  cases hp : a.puts
  · simp only [Bool.false_eq_true, if_false]
    by_cases h0 : (delR S a.t0 a.name).2 = 0
    · rw [if_pos h0]
      refine ⟨by rw [List.length_set]; exact h.1, fun t k h1 h2 => ?_⟩
      rw [hset _ t k h1 h2, ver_del hg ht a.name t (nmS k) h0]
      by_cases he : t = a.t0 ∧ k = a.n0
      · rw [if_pos he, if_pos ⟨he.1, by rw [he.2]; rfl⟩]
      · rw [if_neg he, if_neg (fun q => he ⟨q.1, nmS_inj h2 hn q.2⟩)]
        exact h.2 t k h1 h2
    · rw [if_neg h0, (delR_no h0).1]
      exact h
  · simp only [if_true]
    cases hr : roomS (S.ar a.t0) (a.data most).length
    · have e : putR S a.t0 a.name (a.data most) = (S, 112) := by unfold putR; rw [hr]; rfl
      rw [e, if_neg (show ¬ ((112 : Int) = 0) by decide)]
      exact h
    · have e : (putR S a.t0 a.name (a.data most)).2 = 0 := by unfold putR; rw [hr]; rfl
      rw [if_pos e]
      refine ⟨by rw [List.length_set]; exact h.1, fun t k h1 h2 => ?_⟩
      rw [hset _ t k h1 h2, ver_put hg ht a.name (a.data most) hr t (nmS k)]
      by_cases he : t = a.t0 ∧ k = a.n0
      · rw [if_pos he, if_pos ⟨he.1, by rw [he.2]; rfl⟩, h.2 a.t0 a.n0 ht hn]
        rfl
      · rw [if_neg he, if_neg (fun q => he ⟨q.1, nmS_inj h2 hn q.2⟩)]
        exact h.2 t k h1 h2
/-! List -/
def fndS (l : List IN) (name : ByteArray) : Int := l.foldl (fun f x => if x.name == name then x.ver else f) 0
theorem fndS_snoc (l : List IN) (x : IN) (name : ByteArray) : fndS (l ++ [x]) name = if x.name == name then x.ver else fndS l name := by simp [fndS]
theorem fndS_eq (name : ByteArray) : ∀ (l : List IN) (f : Int), (l.map (·.name)).Nodup → (∀ x ∈ l, x.name = name → l.foldl (fun f x => if x.name == name then x.ver else f) f = x.ver) ∧ ((∀ x ∈ l, x.name ≠ name) → l.foldl (fun f x => if x.name == name then x.ver else f) f = f) := by
  intro l
  induction l with
  | nil => intro f _; exact ⟨fun x hx => (by cases hx), fun _ => rfl⟩
  | cons y l ih =>
    intro f hn
    rw [List.map_cons, List.nodup_cons] at hn
    refine ⟨fun x hx hxn => ?_, fun h => ?_⟩
    · rw [List.foldl_cons]
      rcases List.mem_cons.1 hx with hx | hx
      · subst hx
        rw [hxn, bay, if_pos rfl]
        exact (ih _ hn.2).2 (fun z hz q => hn.1 (by rw [hxn, ← q]; exact List.mem_map.2 ⟨z, hz, rfl⟩))
      · exact (ih _ hn.2).1 x hx hxn
    · rw [List.foldl_cons, bax (h y List.mem_cons_self)]
      exact (ih _ hn.2).2 (fun z hz => h z (List.mem_cons_of_mem _ hz))
theorem fnd_ver {es : List EN} {l : List IN} (hn : (es.map (·.hd.name)).Nodup) (hp : l.Perm (es.map infoS)) (name : ByteArray) : fndS l name = verE es name := by
  have hnl : (l.map (·.name)).Nodup := by
    have h1 := hp.map (·.name)
    rw [List.map_map] at h1
    exact (h1.nodup_iff).2 hn
  by_cases h : ∃ e ∈ es, e.hd.name = name
  · obtain ⟨e, he, hen⟩ := h
    have h1 : infoS e ∈ l := hp.mem_iff.2 (List.mem_map.2 ⟨e, he, rfl⟩)
    have h2 := (fndS_eq name l 0 hnl).1 _ h1 hen
    have h3 := verE_mem hn he
    rw [hen] at h3
    rw [h3]
    exact h2
  · have h1 : ∀ e ∈ es, e.hd.name ≠ name := fun e he q => h ⟨e, he, q⟩
    rw [verE_none h1]
    refine (fndS_eq name l 0 hnl).2 (fun x hx => ?_)
    obtain ⟨e, he, rfl⟩ := List.mem_map.1 (hp.mem_iff.1 hx)
    exact h1 e he
theorem toList_inj {a b : ByteArray} (h : a.toList = b.toList) : a = b := by
  rw [ByteArray.toList_eq, ByteArray.toList_eq] at h
  cases a with | mk x => cases b with | mk y =>
  rw [Array.toList_inj] at h
  rw [show x = y from h]
theorem less_next {es : List EN} {l : List IN} (hn : (es.map (·.hd.name)).Nodup) (hp : l.Perm (es.map infoS)) (hs : l.Pairwise (fun x y => ltOf cfS y x = false)) {k : Nat} {x y : IN} (hx : l[k]? = some x) (hy : l[k + 1]? = some y) : Op.bytesLess x.name.toList y.name.toList = true := by
  have hnl : (l.map (·.name)).Nodup := by
    have h1 := hp.map (·.name)
    rw [List.map_map] at h1
    exact (h1.nodup_iff).2 hn
  obtain ⟨x1, x2⟩ := List.getElem?_eq_some_iff.1 hx
  obtain ⟨y1, y2⟩ := List.getElem?_eq_some_iff.1 hy
  have h1 := List.pairwise_iff_getElem.1 hs k (k + 1) x1 y1 (by omega)
  have h2 := List.pairwise_iff_getElem.1 hnl k (k + 1) (by simpa using x1) (by simpa using y1) (by omega)
  rw [x2, y2, ltS_eq] at h1
  simp only [List.getElem_map, x2, y2] at h2
  rw [bytesLess_eq]
  unfold ltStr at h1
  have h3 := of_decide_eq_false h1
  rw [decide_eq_true_eq]
  rcases Decidable.em (x.name.toList < y.name.toList) with h4 | h4
  · exact h4
  · exact absurd (toList_inj (List.le_antisymm (List.not_lt.1 h3) (List.not_lt.1 h4))) h2
end Go.Proofs.YtmofiicjaldmiaaGreatDoor.SwV
namespace Go.Proofs.YtmofiicjaldmiaaGreatDoor.SwW
open Go.RowKit Go.Shelf Go.Proofs.YtmofiicjaldmiaaGreatDoorW.PrintWords Go.Proofs.YtmofiicjaldmiaaGreatDoorW.PrintLast Go.Proofs.YtmofiicjaldmiaaGreatDoor.SvA Go.Proofs.YtmofiicjaldmiaaGreatDoor.SvB Go.Proofs.YtmofiicjaldmiaaGreatDoor.SvC Go.Proofs.YtmofiicjaldmiaaGreatDoor.SvD Go.Proofs.YtmofiicjaldmiaaGreatDoor.SvE Go.Proofs.YtmofiicjaldmiaaGreatDoor.SvF Go.Proofs.YtmofiicjaldmiaaGreatDoor.SvG Go.Proofs.YtmofiicjaldmiaaGreatDoor.SvH Go.Proofs.YtmofiicjaldmiaaGreatDoor.SvI Go.Proofs.YtmofiicjaldmiaaGreatDoor.SvJ Go.Proofs.YtmofiicjaldmiaaGreatDoor.SvK Go.Proofs.YtmofiicjaldmiaaGreatDoor.SvL Go.Proofs.YtmofiicjaldmiaaGreatDoor.SvM Go.Proofs.YtmofiicjaldmiaaGreatDoor.SvN Go.Proofs.YtmofiicjaldmiaaGreatDoor.SvO Go.Proofs.YtmofiicjaldmiaaGreatDoor.SvP Go.Proofs.YtmofiicjaldmiaaGreatDoor.SvQ Go.Proofs.YtmofiicjaldmiaaGreatDoor.SvR Go.Proofs.YtmofiicjaldmiaaGreatDoor.SvS Go.Proofs.YtmofiicjaldmiaaGreatDoor.SvT Go.Proofs.YtmofiicjaldmiaaGreatDoor.SvU Go.Proofs.YtmofiicjaldmiaaGreatDoor.SvV Go.Proofs.YtmofiicjaldmiaaGreatDoor.SvW Go.Proofs.YtmofiicjaldmiaaGreatDoor.SvX Go.Proofs.YtmofiicjaldmiaaGreatDoor.SvY Go.Proofs.YtmofiicjaldmiaaGreatDoor.SvZ Go.Proofs.YtmofiicjaldmiaaGreatDoor.SwA Go.Proofs.YtmofiicjaldmiaaGreatDoor.SwB Go.Proofs.YtmofiicjaldmiaaGreatDoor.SwC Go.Proofs.YtmofiicjaldmiaaGreatDoor.SwD Go.Proofs.YtmofiicjaldmiaaGreatDoor.SwE Go.Proofs.YtmofiicjaldmiaaGreatDoor.SwF Go.Proofs.YtmofiicjaldmiaaGreatDoor.SwG Go.Proofs.YtmofiicjaldmiaaGreatDoor.SwI Go.Proofs.YtmofiicjaldmiaaGreatDoor.SwJ Go.Proofs.YtmofiicjaldmiaaGreatDoor.SwK Go.Proofs.YtmofiicjaldmiaaGreatDoor.SwH Go.Proofs.YtmofiicjaldmiaaGreatDoor.SwL Go.Proofs.YtmofiicjaldmiaaGreatDoor.SwM Go.Proofs.YtmofiicjaldmiaaGreatDoor.SwN Go.Proofs.YtmofiicjaldmiaaGreatDoor.SwO Go.Proofs.YtmofiicjaldmiaaGreatDoor.SwP Go.Proofs.YtmofiicjaldmiaaGreatDoor.SwQ Go.Proofs.YtmofiicjaldmiaaGreatDoor.SwR Go.Proofs.YtmofiicjaldmiaaGreatDoor.SwS Go.Proofs.YtmofiicjaldmiaaGreatDoor.SwT Go.Proofs.YtmofiicjaldmiaaGreatDoor.SwV
set_option linter.unusedVariables false
set_option linter.unusedSimpArgs false
open Go.Lib
abbrev ts130 : Nat → Prop := fun q => k20 100 q ∨ q = 130
theorem ow_ints (w : World) (own : Nat → Nat) (n : Nat) (hn : n < 2 ^ 40) (t : Nat) : Ow i64K 3 (w.alloc (.cells (madeCells #[.int .i64 0] n) 3)) (tagged w own t) t ⟨some ⟨w.heap.size, 0, none⟩, n, n⟩ (List.replicate n 0) := by
  have h := own_made' w w.heap.size 3 .i64 n (Nat.le_refl _) (by omega)
  exact ow_new (w := w) (s := ⟨some ⟨w.heap.size, 0, none⟩, n, n⟩) (own := own) (ok := fun _ => True) t (Kd.R_of_own h (fun _ _ => trivial))
/-- a list that List told, in memory -/
def LsAt (w : World) (A : Option Addr) (l : List IN) : Prop := ∀ (j : Nat) (x : IN), l[j]? = some x → ∃ zb, A = some ⟨zb, 0, none⟩ ∧ w.cell? ⟨zb, j * 3, none⟩ = some (.string x.name) ∧ w.cell? ⟨zb, j * 3 + 1, none⟩ = some (.int .i64 x.ver) ∧ w.cell? ⟨zb, j * 3 + 2, none⟩ = some (.int .i64 x.size)
theorem LsAt.below {w w' : World} {A : Option Addr} {l : List IN} (h : LsAt w A l) (hb : Below w.heap.size w w') : LsAt w' A l := fun j x hx => by
  obtain ⟨zb, h1, h2, h3, h4⟩ := h j x hx
  exact ⟨zb, h1, cellOf hb h2, cellOf hb h3, cellOf hb h4⟩
theorem ls_of {w : World} {o : Nat → Nat} {t : Nat} {z : Sl} {l : List IN} (h : Ow inK 49 w o t z l) : LsAt w z.A l := fun j x hx => by
  have hn := (ow_len h).1
  obtain ⟨j1, j2⟩ := List.getElem?_eq_some_iff.1 hx
  obtain ⟨zb, hz⟩ := ow_head h (by omega)
  obtain ⟨A, n, c⟩ := z
  injection hz with hA _ _
  subst hA
  dsimp only at hn
  obtain ⟨cur, c1, c2, c3, c4, c5, c6⟩ := ow_in h
  have e : l.toArray[j]! = x := by simp [j1, j2]
  have q : ∀ i, i < 3 → cur[j * 3 + i]? = some ((IN.cells x)[i]!) := fun i hi => by
    have := c6 (j * 3 + i) (by omega)
    rw [show (j * 3 + i) / 3 = j by omega, show (j * 3 + i) % 3 = i by omega, e] at this
    exact this
  exact ⟨zb, rfl, Blk.cell c1 (q 0 (by omega)), Blk.cell c1 (q 1 (by omega)), Blk.cell c1 (q 2 (by omega))⟩
theorem GA.ver_bd {n i m : Nat} {a : AR} (h : GA n i m a) (name : ByteArray) : 0 ≤ verE a.ents name ∧ verE a.ents name ≤ m := by
  by_cases hx : ∃ e ∈ a.ents, e.hd.name = name
  · obtain ⟨e, he, hn⟩ := hx
    have := verE_mem h.nd he
    rw [hn] at this
    rw [this]
    have := h.ok e he
    omega
  · rw [verE_none (fun e he q => hx ⟨e, he, q⟩)]
    omega
theorem toList_beq (a b : ByteArray) : (a.toList == b.toList) = (a == b) := by
  rw [Bool.eq_iff_iff, ba_beq, beq_iff_eq]
  exact ⟨toList_inj, fun h => by rw [h]⟩
/-- how the law stands at the head of a round -/
def CtSt (w : World) (N g gs : Nat) (ga : Nat → Nat) (cb : Nat) (k : Nat) (wr : World) : Prop := ∃ S own' D cs, SvMem wr own' 100 g gs ga S ∧ GS S N k ∧ CS S D ∧ Ow i64K 3 wr own' 130 ⟨some ⟨cb, 0, none⟩, 48, 48⟩ cs ∧ Cnt S cs ∧ Kp ts130 w (fun _ => 0) wr own'
/-- how it stands behind an act -/
structure CtRd (v1 : World) (g gs : Nat) (ga : Nat → Nat) (cb q : Nat) (x : AC) (S : SV) (cs : List Int) (wz : World) (oz : Nat → Nat) : Prop where
  m : SvMem wz oz 100 g gs ga S
  ow : Ow i64K 3 wz oz 130 ⟨some ⟨cb, 0, none⟩, 48, 48⟩ cs
  bk : Blk wz q #[.int .i64 x.kind, .int .i64 x.ten, .int .i64 x.nm, .int .i64 x.bytes] 33
  oq : oz q = 0
  kp : Kp ts130 v1 (fun _ => 0) wz oz
theorem CtRd.below {v1 : World} {g gs : Nat} {ga : Nat → Nat} {cb q : Nat} {x : AC} {S : SV} {cs : List Int} {wz W : World} {oz : Nat → Nat} (H : CtRd v1 g gs ga cb q x S cs wz oz) (h : Below wz.heap.size wz W) : CtRd v1 g gs ga cb q x S cs W (tagged wz oz 0) := by
  obtain ⟨b1, b2⟩ := H.bk.keep (Kp.below (ts := fun _ => False) (own := oz) h 0) (fun q => q)
  exact ⟨H.m.below h, H.ow.keep (Kp.below (ts := fun _ => False) h 0) (fun q => q), b1, b2.trans H.oq, H.kp.trans (Kp.below h 0)⟩
theorem CtRd.set {v1 : World} {g gs : Nat} {ga : Nat → Nat} {cb q : Nat} {x : AC} {S : SV} {cs : List Int} {wz : World} {oz : Nat → Nat} (H : CtRd v1 g gs ga cb q x S cs wz oz) (k : Nat) (v : Int) : CtRd v1 g gs ga cb q x S (cs.set k v) (wz.setCell ⟨cb, k, none⟩ (.int .i64 v)) oz := by
  obtain ⟨h1, h2⟩ := H.ow.put k v
  obtain ⟨b1, b2⟩ := H.bk.keep h2 (by rw [H.oq]; decide)
  exact ⟨H.m.keep h2 (by decide) (fun q h3 h4 h5 => by omega), h1, b1, H.oq, H.kp.trans (h2.mono (fun q h => .inr h))⟩
theorem CtRd.cells {v1 : World} {g gs : Nat} {ga : Nat → Nat} {cb q : Nat} {x : AC} {S : SV} {cs : List Int} {wz : World} {oz : Nat → Nat} (H : CtRd v1 g gs ga cb q x S cs wz oz) : wz.cell? ⟨q, 0, none⟩ = some (.int .i64 x.kind) ∧ wz.cell? ⟨q, 1, none⟩ = some (.int .i64 x.ten) ∧ wz.cell? ⟨q, 2, none⟩ = some (.int .i64 x.nm) ∧ wz.cell? ⟨q, 3, none⟩ = some (.int .i64 x.bytes) :=
  ⟨Blk.cell H.bk rfl, Blk.cell H.bk rfl, Blk.cell H.bk rfl, Blk.cell H.bk rfl⟩
set_option maxRecDepth 100000 in
set_option maxHeartbeats 4000000 in
theorem counted_walk (a0 : Int) (A : Option Addr) (c : Nat) (xs : List AC) (h0 : i64s a0) (w : World) (hxs : AcAt w A xs) (hc : xs.length ≤ c) (hl : xs.length ≤ 9223372036854775807) : Calls Tryz.prog 6 #[.int .i64 a0, .slice A xs.length c] w fun e w' => e = .returned (.bool true) ∧ Below w.heap.size w w' := by
  obtain ⟨p, hp⟩ : ∃ p : Nat, pk a0 400 = (p : Int) := ⟨(pk a0 400).toNat, by have := pk_bd a0 400 (by omega); omega⟩
  have hpb : p < 400 := by have := pk_bd a0 400 (by omega); omega
  have HP1 := Lib.hid (fun W => pick_ok a0 400 W h0 (by omega) (by omega))
  rw [hp] at HP1
  clear hp
  have hnew : ∀ W : World, Calls Tryz.prog 16 #[.int .i64 (400 + (p : Int))] W (NewP W (List.replicate (512 * (400 + p)) 0)) := fun W => by
    have := new_ok W (400 + p) (by omega) (by omega)
    rwa [show ((400 + p : Nat) : Int) = 400 + (p : Int) by omega] at this
  have hNb : 400 ≤ 400 + p ∧ 400 + p < 800 := by omega
  generalize hN : 400 + p = N at *
  have HAW := Lib.hid (fun W => awake_ok W)
  have HNEW := Lib.hid hnew
  have HN := Lib.hid hN
  clear hnew hN
  have HOP := Lib.hid (fun (W : World) (gs : Nat) (own : Nat → Nat) (H : StA W own 100 gs (BS.fresh (List.replicate (512 * N) 0))) => new_open W N (by omega) (by omega) gs own 100 (by decide) H)
  obtain ⟨g0, c0⟩ := GS.start N (by omega) (fun _ _ => [])
  have hs0e : ∀ i, ((S0 (BS.fresh (List.replicate (512 * N) 0))).ar i).ents = [] := fun _ => rfl
  have HSC := Lib.hid (fun (W : World) (own : Nat → Nat) (g gs : Nat) (ga : Nat → Nat) (H : SvMem W own 100 g gs ga (S0 (BS.fresh (List.replicate (512 * N) 0)))) => sect_ok W own 100 gs _ H.st (g0.bok.fit.hz))
  have hbn : (S0 (BS.fresh (List.replicate (512 * N) 0))).b.n = N := g0.bn
  rw [hbn] at HSC
  clear hbn
  generalize S0 (BS.fresh (List.replicate (512 * N) 0)) = s0 at *
  have HINI := Lib.hid (And.intro g0 (And.intro c0 hs0e))
  clear g0 c0 hs0e
  have HXS := Lib.hid hxs
  clear hxs
  have hmk : ∀ W : World, (Instr.makeSlice 53 (.int .i64 48) (.int .i64 48)).run Tryz.prog W = .ok (.slice (some ⟨W.heap.size, 0, none⟩) 48 48) (W.alloc (.cells (madeCells #[.int .i64 0] 48) 3)) := print_make (P := Tryz.prog) 53 3 .i64 8 Tryz.underlying53 info3 (by decide) 48 (by omega)
  go_enter Tryz.func6, Tryz.ntmps6
  go_upto_region 6 with (first
    | (go_at_call 14; (with_reducible refine (HAW.out _).mono ?_); rintro e w0 ⟨rfl, hb0⟩; have HB0 := Lib.hid hb0; clear hb0)
    | (go_at_call 15; (with_reducible refine (HP1.out _).mono ?_); rintro e w' ⟨rfl, rfl⟩)
    | (go_at_call 16; refine (HNEW.out _).mono ?_; rintro e w1 ⟨gs, rfl, hgs, hb1, hN⟩; obtain ⟨o1, st1, k1⟩ := hN (fun _ => 0) 100; have K1 := Lib.hid k1; have ST1 := Lib.hid st1; clear k1 st1 hN hgs hb1)
    | (go_at_call 17; refine Calls.mono (HOP.out _ gs o1 ST1.out) ?_; rintro e w2 ⟨g, o2, ga, rfl, hg2x, M2, k2⟩; have K2 := Lib.hid (And.intro M2 k2); clear M2 k2 hg2x)
    | (go_at_call 22; refine Calls.mono (HSC.out w2 o2 g gs ga K2.out.1) ?_; rintro e w' ⟨rfl, rfl⟩))
  have hk2 : Kp (k20 100) w (fun _ => 0) w2 o2 := ((kp_zero HB0.out).trans (K1.out.mono (fun _ h => h.elim))).trans K2.out.2
  have HST := Lib.hid (show CtSt w N g gs ga w2.heap.size 0 (w2.alloc (.cells (madeCells #[.int .i64 0] 48) 3)) from by
    have hkk : Kp (fun _ => False) w2 o2 (w2.alloc (.cells (madeCells #[.int .i64 0] 48) 3)) (tagged w2 o2 130) := Kp.below (ba _) 130
    refine ⟨s0, tagged w2 o2 130, _, List.replicate 48 0, K2.out.1.keep hkk (fun q => q) (fun _ _ _ q => q), HINI.out.1, HINI.out.2.1, ow_ints w2 o2 48 (by decide) 130, ⟨by simp, fun t n h1 h2 => ?_⟩, (hk2.mono (fun q h => .inl h)).trans (hkk.mono (fun _ h => h.elim))⟩
    rw [HINI.out.2.2 t, List.getElem?_replicate, if_pos (by omega)]
    rfl)
  clear hk2
  generalize hmc : madeCells #[.int .i64 0] 48 = mc at *
  clear hmc
  go_upto_region 7 with (fail)
  generalize w2.alloc (.cells mc 3) = w3 at *
  generalize w2.heap.size = cb at *
  go_wp2_with fail
  go_loopw [11, 12, 13, 14, 15, 16, 17] (fun v _ _ _ _ _ _ wr => ∃ k : Nat, k ≤ 80 ∧ k ≤ xs.length ∧ v = .int .i64 (k : Int) ∧ CtSt w N g gs ga cb k wr) (fun v _ _ _ _ _ _ _ => 80 - (intOf v).toNat)
  case atStart => exact ⟨0, by omega, by omega, rfl, HST.out⟩
  case round =>
    obtain ⟨k, hk80, hk, rfl, S, own', D, cs, M, G, C, O, CT, kp⟩ := hrel
    have hb := kp_below kp (by intro h; rcases h with h | h; exact absurd h.1 (by omega); omega)
    by_cases hc1 : k < xs.length
    · have dl1 : decide ((k : Int) < (xs.length : Int)) = true := by simp; omega
      by_cases hc2 : k < 80
      · have dl2 : decide ((k : Int) < 80) = true := by simp; omega
        have hlt' : (k : Int) < (xs.length : Int) := by omega
        obtain ⟨x, hx⟩ : ∃ x, xs[k]? = some x := ⟨_, List.getElem?_eq_getElem hc1⟩
        obtain ⟨hw, ad, hA, c0, c1, c2, c3⟩ := (HXS.out.below hb) k x hx
        subst hA
        have d0 := fun o => cellOf (ba (w := wr) o) c0
        have d1 := fun o => cellOf (ba (w := wr) o) c1
        have d2 := fun o => cellOf (ba (w := wr) o) c2
        have d3 := fun o => cellOf (ba (w := wr) o) c3
        clear hx
        obtain ⟨G2, C2⟩ := doS_all G C x 1500 (by omega) (by omega) (by omega)
        have CT2 := CT.act G x 1500 (by omega)
        have hti := x.t0_lt.1
        have hni := x.n0_lt.1
        have HT := Lib.hid (fun W => tenant_ok x hw W)
        have HPU := Lib.hid (fun W => puts_ok x W)
        have HAT := Lib.hid (fun W => at_ok x hw W)
        have HNM := Lib.hid (fun W => name_ok x hw W)
        have hxe : x.enc = .agg #[.int .i64 x.kind, .int .i64 x.ten, .int .i64 x.nm, .int .i64 x.bytes] := rfl
        rw [hxe] at HT HPU HAT HNM
        have hdo0 : ∀ (W0 : World) (o : Nat → Nat) (H : SvMem W0 o 100 g gs ga S), Calls Tryz.prog 18 #[.agg #[.int .i64 x.kind, .int .i64 x.ten, .int .i64 x.nm, .int .i64 x.bytes], pt g, .int .i64 1500] W0 (ActR W0 o 100 g gs ga (doS S x 1500)) := fun W0 o H => does_at W0 o 100 g gs ga S H (by decide) G (by omega) W0 (Below.refl _ _) x hw 1500 (by omega) (by omega)
        have hdr : (doS S x 1500).2 = 0 ∨ (doS S x 1500).2 ≠ 0 := Decidable.em _
        have hold : ∃ v, cs[6 * x.t0 + x.n0]? = some v ∧ 0 ≤ v ∧ v ≤ 80 := by
          have hvb := GA.ver_bd (G.ar x.t0 hti) (nmS x.n0)
          exact ⟨_, CT.2 x.t0 x.n0 hti hni, hvb.1, by omega⟩
        generalize hS2 : doS S x 1500 = S2 at *
        have hl0 : ∀ (W0 : World) (o : Nat → Nat) (H : SvMem W0 o 100 g gs ga S2.1) (W : World) (h : Below W0.heap.size W0 W), Calls Tryz.prog 25 #[pt g, .int .i64 ((x.t0 : Int) + 1)] W (ListP W (S2.1.ar x.t0).ents) := fun W0 o H W h => list_at W0 o 100 g gs ga S2.1 H G2 W h x.t0 hti
        have hnd := (G2.ar x.t0 hti).nd
        have hcv := CT2.2 x.t0 x.n0 hti hni
        have HNX := Lib.hid (fun (W : World) (o : Nat → Nat) (H : CtRd w g gs ga cb wr.heap.size x S2.1 (cntS cs x S2.2) W o) => (show CtSt w N g gs ga cb (k + 1) W from ⟨S2.1, o, _, _, H.m, G2, C2, H.ow, CT2, H.kp⟩))
        have HND := Lib.hid hnd
        have HES := Lib.hid (show (((S2.1.ar x.t0).ents.length : Nat) : Int) < 1000 by have h1 := (G2.ar x.t0 hti).len_le; rw [(G2.ar x.t0 hti).hds] at h1; omega)
        have HCV := Lib.hid hcv
        have HL := Lib.hid hl0
        go_upto_region 11 with (fail)
        have hR0 : CtRd w g gs ga cb wr.heap.size x S cs (wr.alloc (.cells #[.int .i64 x.kind, .int .i64 x.ten, .int .i64 x.nm, .int .i64 x.bytes] 33)) (tagged wr own' 0) := ⟨M.below (ba _), O.keep (Kp.below (ts := fun _ => False) (ba _) 0) (fun q => q), blkNew rfl, tagged_new (Nat.le_refl _), kp.trans (Kp.below (ba _) 0)⟩
        generalize hv2 : wr.alloc (.cells #[.int .i64 x.kind, .int .i64 x.ten, .int .i64 x.nm, .int .i64 x.bytes] 33) = v2 at *
        generalize tagged wr own' 0 = own2 at *
        generalize wr.heap.size = q at *
        obtain ⟨y0, y1, y2, y3⟩ := hR0.cells
        have HR0 := Lib.hid hR0
        have HDO := Lib.hid (hdo0 v2 own2 hR0.m)
        obtain ⟨r, hr⟩ : ∃ r, S2.2 = r := ⟨_, rfl⟩
        rw [hr] at hdr HNX HCV
        have HRR := Lib.hid hr
        clear M G C O CT kp G2 C2 CT2 hxe hw hl0 hdo0 hR0 hv2 hr hnd hcv hb d0 d1 d2 d3 hS2 hc
        obtain ⟨ov, hov, hov0, hov1⟩ := hold
        go_upto_region 12 with ((go_at_call 18; (with_reducible refine Calls.mono HDO.out ?_); intro e w9 h9; obtain ⟨rfl, o9, M9, k9⟩ := ActR.ok h9 HRR.out; have hb9 := HR0.out.bk.keep k9 (by rw [HR0.out.oq]; intro h; have := h.1; omega); have H9 := Lib.hid (show CtRd w g gs ga cb q x S2.1 cs w9 o9 from ⟨M9, HR0.out.ow.keep k9 (by intro h; have := h.2; omega), hb9.1, hb9.2.trans HR0.out.oq, HR0.out.kp.trans (k9.mono (fun q h => .inl h))⟩); obtain ⟨y0, y1, y2, y3⟩ := H9.out.cells; clear h9 M9 k9 hb9))
        have hai : 6 * x.t0 + x.n0 < 48 := by omega
        have HCT := Lib.hid (show cntS cs x r = if r = 0 then (if x.puts then cs.set (6 * x.t0 + x.n0) (ov + 1) else cs.set (6 * x.t0 + x.n0) 0) else cs by unfold cntS; rw [hov]; rfl)
        generalize hat : 6 * x.t0 + x.n0 = ai at *
        rcases hdr with h | h
        · subst h
          cases hp : x.puts
          · rw [hp] at HPU HCT
            simp only [if_true, Bool.false_eq_true, if_false] at HCT
            go_upto_region 16 with (first
              | (go_at_call 27; (with_reducible refine (HPU.out _).mono ?_); rintro e w10 ⟨rfl, hb10⟩; have H10 := Lib.hid (H9.out.below hb10); obtain ⟨y0, y1, y2, y3⟩ := H10.out.cells; clear hb10)
              | (go_at_call 28; (with_reducible refine (HAT.out _).mono ?_); rintro e w11 ⟨rfl, hb11⟩; have H11 := Lib.hid (H10.out.below hb11); obtain ⟨p0, p1, p2⟩ := ow_cell H11.out.ow ai ov hov; clear hb11))
            have HZ := Lib.hid (H11.out.set ai 0)
            rw [← HCT.out] at HZ
            generalize w11.setCell ⟨cb, ai, none⟩ (.int .i64 0) = wz at *
            generalize tagged w10 (tagged w9 o9 0) 0 = oz at *
            clear HR0 HDO HRR
            obtain ⟨y0, y1, y2, y3⟩ := HZ.out.cells
            go_upto_region 20 with (first
              | (go_at_call 19; (with_reducible refine (HT.out _).mono ?_); rintro e w13 ⟨rfl, hb13⟩; have HB13 := Lib.hid hb13; clear hb13)
              | (go_at_call 25; (with_reducible refine Calls.mono (HL.out wz oz HZ.out.m w13 HB13.out) ?_); rintro e w14 ⟨⟨zA, zn, zc⟩, zo, l, rfl, z1, z2, z3, z4, z5⟩; have LS := Lib.hid (ls_of z1); obtain rfl : l.length = zn := (ow_len z1).1; have HB14 := Lib.hid (HB13.out.trans (z3.mono HB13.out.size)); have hlb : (l.length : Int) < 1000 := (by rw [z4.length_eq, List.length_map]; exact HES.out); have HP4 := Lib.hid z4; have HP5 := Lib.hid z5; clear z1 z2 z3 z4 z5; unfold Sl.enc; dsimp only))
            clear y0 y1 y2 y3
            go_wp2_with fail
            go_loopw [17, 16] (fun v f wr2 => ∃ j : Nat, j ≤ l.length ∧ v = .int .i64 (j : Int) ∧ f = .int .i64 (fndS (l.take j) x.name) ∧ Below wz.heap.size wz wr2 ∧ LsAt wr2 zA l) (fun v _ _ => l.length - (intOf v).toNat)
            case atStart => exact ⟨0, by omega, rfl, rfl, HB14.out, LS.out⟩
            case round =>
              obtain ⟨j, hj, rfl, rfl, hbz, ls⟩ := hrel
              have hrd := HZ.out.below hbz
              obtain ⟨y0, y1, y2, y3⟩ := hrd.cells
              by_cases hlt2 : j < l.length
              · have dj : decide ((j : Int) < (l.length : Int)) = true := by simp; omega
                obtain ⟨xj, hxj⟩ : ∃ xj, l[j]? = some xj := ⟨_, List.getElem?_eq_getElem hlt2⟩
                obtain ⟨zb, hzA, z0, z1, z2⟩ := ls j xj hxj
                subst hzA
                have HTK := Lib.hid (show fndS (l.take (j + 1)) x.name = if xj.name == x.name then xj.ver else fndS (l.take j) x.name by
                  rw [← fndS_snoc, List.take_succ_eq_append_getElem hlt2, (List.getElem?_eq_some_iff.1 hxj).2])
                have hjl : (j : Int) < (l.length : Int) := by omega
                have hj0 : (0 : Int) ≤ (j : Int) := by omega
                by_cases hz : j = 0
                · subst hz
                  have dg : decide (((0 : Nat) : Int) > 0) = false := by decide
                  have HLW := Lib.hid ls
                  clear ls hxj
                  go_upto_region 23 with (fail)
                  refine start_ (n := 16) (S := fun _ => True) (ds := []) #[false, false, false, false, false, false, false, false, false, false, false, false, false, false, false, false] (by kernel_rfl) rfl rfl trivial (fun hHeld => ?_)
                  refine pure_ (i := 0) (N := some 103) (v := ?_) (a' := ?_) #[true, false, false, false, false, false, false, false, false, false, false, false, false, false, false, false] rfl rfl (by kernel_rfl) (fun _ _ _ h => h) (Or.inl ⟨by rfl, ?_⟩) ?_ ?_
                  rotate_left
                  · intro w'
                    go_simp
                    with_reducible rfl
                  rotate_left
                  · simp only [Act.put, List.setIfInBounds_toArray, List.set_cons_zero, List.set_cons_succ, i64_w, i32_w]
                    rfl
                  refine pure_ (i := 1) (N := some 104) (v := ?_) (a' := ?_) #[true, true, false, false, false, false, false, false, false, false, false, false, false, false, false, false] rfl rfl (by kernel_rfl) (fun _ _ _ h => h) (Or.inl ⟨by rfl, ?_⟩) ?_ ?_
                  rotate_left
                  · intro w'
                    go_simp
                    with_reducible rfl
                  rotate_left
                  · simp only [Act.put, List.setIfInBounds_toArray, List.set_cons_zero, List.set_cons_succ, i64_w, i32_w]
                    rfl
                  refine pure_ (i := 2) (N := some 105) (v := ?_) (a' := ?_) #[true, true, true, false, false, false, false, false, false, false, false, false, false, false, false, false] rfl rfl (by kernel_rfl) (fun _ _ _ h => h) (Or.inl ⟨by rfl, ?_⟩) ?_ ?_
                  rotate_left
                  · intro w'
                    go_simp
                    with_reducible rfl
                  rotate_left
                  · simp only [Act.put, List.setIfInBounds_toArray, List.set_cons_zero, List.set_cons_succ, i64_w, i32_w]
                    rfl
                  refine pure_ (i := 3) (N := some 106) (v := undef) (a' := ?_) #[true, true, true, true, false, false, false, false, false, false, false, false, false, false, false, false] rfl rfl (by kernel_rfl) (fun _ _ _ h => h) (Or.inr ⟨by rfl, rfl⟩) ?_ ?_
                  rotate_left
                  · simp only [Act.put, List.setIfInBounds_toArray, List.set_cons_zero, List.set_cons_succ, i64_w, i32_w]
                    rfl
                  refine pure_ (i := 4) (N := some 107) (v := undef) (a' := ?_) #[true, true, true, true, true, false, false, false, false, false, false, false, false, false, false, false] rfl rfl (by kernel_rfl) (fun _ _ _ h => h) (Or.inr ⟨by rfl, rfl⟩) ?_ ?_
                  rotate_left
                  · simp only [Act.put, List.setIfInBounds_toArray, List.set_cons_zero, List.set_cons_succ, i64_w, i32_w]
                    rfl
                  refine pure_ (i := 5) (N := some 108) (v := undef) (a' := ?_) #[true, true, true, true, true, true, false, false, false, false, false, false, false, false, false, false] rfl rfl (by kernel_rfl) (fun _ _ _ h => h) (Or.inr ⟨by rfl, rfl⟩) ?_ ?_
                  rotate_left
                  · simp only [Act.put, List.setIfInBounds_toArray, List.set_cons_zero, List.set_cons_succ, i64_w, i32_w]
                    rfl
                  refine pure_ (i := 6) (N := some 109) (v := undef) (a' := ?_) #[true, true, true, true, true, true, true, false, false, false, false, false, false, false, false, false] rfl rfl (by kernel_rfl) (fun _ _ _ h => h) (Or.inr ⟨by rfl, rfl⟩) ?_ ?_
                  rotate_left
                  · simp only [Act.put, List.setIfInBounds_toArray, List.set_cons_zero, List.set_cons_succ, i64_w, i32_w]
                    rfl
                  refine pure_ (i := 7) (N := some 110) (v := undef) (a' := ?_) #[true, true, true, true, true, true, true, true, false, false, false, false, false, false, false, false] rfl rfl (by kernel_rfl) (fun _ _ _ h => h) (Or.inr ⟨by rfl, rfl⟩) ?_ ?_
                  rotate_left
                  · simp only [Act.put, List.setIfInBounds_toArray, List.set_cons_zero, List.set_cons_succ, i64_w, i32_w]
                    rfl
                  refine pure_ (i := 8) (N := some 111) (v := undef) (a' := ?_) #[true, true, true, true, true, true, true, true, true, false, false, false, false, false, false, false] rfl rfl (by kernel_rfl) (fun _ _ _ h => h) (Or.inr ⟨by rfl, rfl⟩) ?_ ?_
                  rotate_left
                  · simp only [Act.put, List.setIfInBounds_toArray, List.set_cons_zero, List.set_cons_succ, i64_w, i32_w]
                    rfl
                  refine pure_ (i := 9) (N := some 112) (v := undef) (a' := ?_) #[true, true, true, true, true, true, true, true, true, true, false, false, false, false, false, false] rfl rfl (by kernel_rfl) (fun _ _ _ h => h) (Or.inr ⟨by rfl, rfl⟩) ?_ ?_
                  rotate_left
                  · simp only [Act.put, List.setIfInBounds_toArray, List.set_cons_zero, List.set_cons_succ, i64_w, i32_w]
                    rfl
                  refine pure_ (i := 10) (N := some 113) (v := undef) (a' := ?_) #[true, true, true, true, true, true, true, true, true, true, true, false, false, false, false, false] rfl rfl (by kernel_rfl) (fun _ _ _ h => h) (Or.inr ⟨by rfl, rfl⟩) ?_ ?_
                  rotate_left
                  · simp only [Act.put, List.setIfInBounds_toArray, List.set_cons_zero, List.set_cons_succ, i64_w, i32_w]
                    rfl
                  refine pure_ (i := 11) (N := some 114) (v := undef) (a' := ?_) #[true, true, true, true, true, true, true, true, true, true, true, true, false, false, false, false] rfl rfl (by kernel_rfl) (fun _ _ _ h => h) (Or.inr ⟨by rfl, rfl⟩) ?_ ?_
                  rotate_left
                  · simp only [Act.put, List.setIfInBounds_toArray, List.set_cons_zero, List.set_cons_succ, i64_w, i32_w]
                    rfl
                  refine pure_ (i := 12) (N := some 115) (v := undef) (a' := ?_) #[true, true, true, true, true, true, true, true, true, true, true, true, true, false, false, false] rfl rfl (by kernel_rfl) (fun _ _ _ h => h) (Or.inr ⟨by rfl, rfl⟩) ?_ ?_
                  rotate_left
                  · simp only [Act.put, List.setIfInBounds_toArray, List.set_cons_zero, List.set_cons_succ, i64_w, i32_w]
                    rfl
                  refine pure_ (i := 13) (N := some 116) (v := undef) (a' := ?_) #[true, true, true, true, true, true, true, true, true, true, true, true, true, true, false, false] rfl rfl (by kernel_rfl) (fun _ _ _ h => h) (Or.inr ⟨by rfl, rfl⟩) ?_ ?_
                  rotate_left
                  · simp only [Act.put, List.setIfInBounds_toArray, List.set_cons_zero, List.set_cons_succ, i64_w, i32_w]
                    rfl
                  refine pure_ (i := 14) (N := some 117) (v := undef) (a' := ?_) #[true, true, true, true, true, true, true, true, true, true, true, true, true, true, true, false] rfl rfl (by kernel_rfl) (fun _ _ _ h => h) (Or.inr ⟨by rfl, rfl⟩) ?_ ?_
                  rotate_left
                  · simp only [Act.put, List.setIfInBounds_toArray, List.set_cons_zero, List.set_cons_succ, i64_w, i32_w]
                    rfl
                  refine pure_ (i := 15) (N := some 118) (v := ?_) (a' := ?_) #[true, true, true, true, true, true, true, true, true, true, true, true, true, true, true, true] rfl rfl (by kernel_rfl) (fun _ _ _ h => h) (Or.inl ⟨by rfl, ?_⟩) ?_ ?_
                  rotate_left
                  · intro w'
                    go_simp
                    with_reducible rfl
                  rotate_left
                  · simp only [Act.put, List.setIfInBounds_toArray, List.set_cons_zero, List.set_cons_succ, i64_w, i32_w]
                    rfl
                  refine done_ (by kernel_rfl) ?_
                  go_upto_region 25 with (fail)
                  refine start_ (n := 8) (S := fun w' => w'.cell? ⟨zb, 0 * 3, none⟩ = some (.string xj.name) ∧ w'.cell? ⟨q, 0, none⟩ = some (.int .i64 x.kind) ∧ w'.cell? ⟨q, 1, none⟩ = some (.int .i64 x.ten) ∧ w'.cell? ⟨q, 2, none⟩ = some (.int .i64 x.nm) ∧ w'.cell? ⟨q, 3, none⟩ = some (.int .i64 x.bytes)) (ds := []) #[false, false, false, false, false, false, false, false] (by kernel_rfl) rfl rfl ⟨z0, y0, y1, y2, y3⟩ (fun hHeld => ?_)
                  refine pure_ (i := 0) (N := some 119) (v := ?_) (a' := ?_) #[true, false, false, false, false, false, false, false] rfl rfl (by kernel_rfl) (fun _ _ _ h => h) (Or.inl ⟨by rfl, ?_⟩) ?_ ?_
                  rotate_left
                  · intro w'
                    go_simp
                    with_reducible rfl
                  rotate_left
                  · simp only [Act.put, List.setIfInBounds_toArray, List.set_cons_zero, List.set_cons_succ, i64_w, i32_w]
                    rfl
                  refine pure_ (i := 1) (N := some 120) (v := ?_) (a' := ?_) #[true, true, false, false, false, false, false, false] rfl rfl (by kernel_rfl) (fun _ _ _ h => h) (Or.inl ⟨by rfl, ?_⟩) ?_ ?_
                  rotate_left
                  · intro w'
                    go_simp
                    with_reducible rfl
                  rotate_left
                  · simp only [Act.put, List.setIfInBounds_toArray, List.set_cons_zero, List.set_cons_succ, i64_w, i32_w]
                    rfl
                  refine pure_ (i := 2) (N := some 121) (v := ?_) (a' := ?_) #[true, true, true, false, false, false, false, false] rfl rfl (by kernel_rfl) (fun _ _ _ h => h) (Or.inl ⟨by rfl, ?_⟩) ?_ ?_
                  rotate_left
                  · intro w'
                    go_simp
                    with_reducible rfl
                  rotate_left
                  · simp only [Act.put, List.setIfInBounds_toArray, List.set_cons_zero, List.set_cons_succ, i64_w, i32_w]
                    rfl
                  refine pure_ (i := 3) (N := some 122) (v := ?_) (a' := ?_) #[true, true, true, true, false, false, false, false] rfl rfl (by kernel_rfl) (fun _ _ _ h => h) (Or.inl ⟨by rfl, ?_⟩) ?_ ?_
                  rotate_left
                  · intro w'
                    go_simp
                    with_reducible rfl
                  rotate_left
                  · simp only [Act.put, List.setIfInBounds_toArray, List.set_cons_zero, List.set_cons_succ, i64_w, i32_w]
                    rfl
                  refine take_ (i := 4) (N := some 123) (v := ?_) (a' := ?_) #[true, true, true, true, true, false, false, false] rfl rfl (by kernel_rfl) (fun _ _ _ h => h) (Or.inl ⟨by rfl, ?_⟩) hHeld ?_ ?_
                  rotate_left
                  · intro w' s0
                    obtain ⟨q1, q2, q3, q4, q5⟩ := s0
                    go_simp
                    with_reducible rfl
                  rotate_left
                  · simp only [Act.put, List.setIfInBounds_toArray, List.set_cons_zero, List.set_cons_succ, i64_w, i32_w]
                    rfl
                  refine take_ (i := 5) (N := some 124) (v := ?_) (a' := ?_) #[true, true, true, true, true, true, false, false] rfl rfl (by kernel_rfl) (fun _ _ _ h => h) (Or.inl ⟨by rfl, ?_⟩) hHeld ?_ ?_
                  rotate_left
                  · intro w' s0
                    obtain ⟨q1, q2, q3, q4, q5⟩ := s0
                    go_simp
                    with_reducible rfl
                  rotate_left
                  · simp only [Act.put, List.setIfInBounds_toArray, List.set_cons_zero, List.set_cons_succ, i64_w, i32_w]
                    rfl
                  refine one_ (i := 6) (N := some 125) #[true, true, true, true, true, true, true, false] rfl rfl (by kernel_rfl) (by decide) (fun K hK => ?_)
                  refine goes_ Tryz.func29 (by kernel_rfl) rfl #[.agg #[.int .i64 x.kind, .int .i64 x.ten, .int .i64 x.nm, .int .i64 x.bytes]] (by first | rfl | (simp [Act.eval]; done)) rfl rfl (by first | rfl | (simp [Act.eval]; done)) ?_
                  refine Calls.mono (HNM.out _) ?_
                  rintro e w15 ⟨rfl, hb15⟩
                  refine ⟨_, rfl, ?_⟩
                  refine hK.out _ _ ⟨cellOf hb15 hHeld.1, cellOf hb15 hHeld.2.1, cellOf hb15 hHeld.2.2.1, cellOf hb15 hHeld.2.2.2.1, cellOf hb15 hHeld.2.2.2.2⟩ (fun hHeld => ?_)
                  clear hK K
                  refine norm_ (a' := ?_) ?_ ?_
                  rotate_left
                  · show Act.put _ (some 125) _ = _
                    simp only [Act.put, List.setIfInBounds_toArray, List.set_cons_zero, List.set_cons_succ, i64_w, i32_w]
                    rfl
                  refine pure_ (i := 7) (N := some 126) (v := ?_) (a' := ?_) #[true, true, true, true, true, true, true, true] rfl rfl (by kernel_rfl) (fun _ _ _ h => h) (Or.inl ⟨by rfl, ?_⟩) ?_ ?_
                  rotate_left
                  · intro w'
                    go_simp
                    with_reducible rfl
                  rotate_left
                  · simp only [Act.put, List.setIfInBounds_toArray, List.set_cons_zero, List.set_cons_succ, i64_w, i32_w]
                    rfl
                  refine done_ (by kernel_rfl) ?_
                  have hls := (show LsAt wr.drew.drew (some ⟨zb, 0, none⟩) l from HLW.out).below hb15
                  have hbz5 := hbz.drew.drew.trans (hb15.mono hbz.size)
                  have zv := cellOf hb15 (show wr.drew.drew.cell? ⟨zb, 0 * 3 + 1, none⟩ = some (.int .i64 xj.ver) from z1)
                  have HNL := Lib.hid (And.intro hbz5 hls)
                  clear hls hbz5 hb15 hHeld
                  go_wp2_with fail
                  all_goals
                    rename_i hq
                    rw [toList_beq] at hq
                    refine ⟨⟨0 + 1, by omega, by first | rfl | go_num, ?_, HNL.out.1, HNL.out.2⟩, by first | (simp [intOf]; omega) | simp [intOf]⟩
                    rw [HTK.out, hq]
                    rfl
                · obtain ⟨i, rfl⟩ : ∃ i, j = i + 1 := ⟨j - 1, by omega⟩
                  obtain ⟨xi, hxi⟩ : ∃ xi, l[i]? = some xi := ⟨_, List.getElem?_eq_getElem (by omega)⟩
                  obtain ⟨zb2, hzA2, u0, u1, u2⟩ := ls i xi hxi
                  injection hzA2 with hzA2
                  injection hzA2 with hzA2 hzo hzs
                  subst hzA2
                  clear hzo hzs
                  have hless := less_next HND.out HP4.out HP5.out hxi hxj
                  have hij : ((i + 1 : Nat) : Int) = (i : Int) + 1 := rfl
                  have dg : decide ((i : Int) + 1 > 0) = true := decide_eq_true (by omega)
                  have hil : (i : Int) < (l.length : Int) := by omega
                  have hi0 : (0 : Int) ≤ (i : Int) := by omega
                  rw [hij]
                  rw [hij] at hjl hj0 dj
                  clear hij u1 u2 hxi hxj hz
                  have HLW := Lib.hid ls
                  clear ls
                  have HLS := Lib.hid hless
                  clear hless
                  go_upto_region 23 with (fail)
                  have hwi : wrap64 (i : Int) = (i : Int) := by unfold wrap64; omega
                  refine start_ (n := 16) (S := fun w' => w'.cell? ⟨zb, i * 3, none⟩ = some (.string xi.name) ∧ w'.cell? ⟨zb, (i + 1) * 3, none⟩ = some (.string xj.name)) (ds := []) #[false, false, false, false, false, false, false, false, false, false, false, false, false, false, false, false] (by kernel_rfl) rfl rfl ⟨u0, z0⟩ (fun hHeld => ?_)
                  refine pure_ (i := 0) (N := some 103) (v := ?_) (a' := ?_) #[true, false, false, false, false, false, false, false, false, false, false, false, false, false, false, false] rfl rfl (by kernel_rfl) (fun _ _ _ h => h) (Or.inl ⟨by rfl, ?_⟩) ?_ ?_
                  rotate_left
                  · intro w'
                    go_simp
                    with_reducible rfl
                  rotate_left
                  · simp only [Act.put, List.setIfInBounds_toArray, List.set_cons_zero, List.set_cons_succ, i64_w, i32_w]
                    rfl
                  refine pure_ (i := 1) (N := some 104) (v := ?_) (a' := ?_) #[true, true, false, false, false, false, false, false, false, false, false, false, false, false, false, false] rfl rfl (by kernel_rfl) (fun _ _ _ h => h) (Or.inl ⟨by rfl, ?_⟩) ?_ ?_
                  rotate_left
                  · intro w'
                    go_simp
                    with_reducible rfl
                  rotate_left
                  · simp only [Act.put, List.setIfInBounds_toArray, List.set_cons_zero, List.set_cons_succ, i64_w, i32_w]
                    rfl
                  refine pure_ (i := 2) (N := some 105) (v := ?_) (a' := ?_) #[true, true, true, false, false, false, false, false, false, false, false, false, false, false, false, false] rfl rfl (by kernel_rfl) (fun _ _ _ h => h) (Or.inl ⟨by rfl, ?_⟩) ?_ ?_
                  rotate_left
                  · intro w'
                    go_simp
                    with_reducible rfl
                  rotate_left
                  · simp only [Act.put, List.setIfInBounds_toArray, List.set_cons_zero, List.set_cons_succ, i64_w, i32_w]
                    rfl
                  refine pure_ (i := 3) (N := some 106) (v := ?_) (a' := ?_) #[true, true, true, true, false, false, false, false, false, false, false, false, false, false, false, false] rfl rfl (by kernel_rfl) (fun _ _ _ h => h) (Or.inl ⟨by rfl, ?_⟩) ?_ ?_
                  rotate_left
                  · intro w'
                    go_simp
                    with_reducible rfl
                  rotate_left
                  · simp only [Act.put, List.setIfInBounds_toArray, List.set_cons_zero, List.set_cons_succ, i64_w, i32_w]
                    rfl
                  refine pure_ (i := 4) (N := some 107) (v := ?_) (a' := ?_) #[true, true, true, true, true, false, false, false, false, false, false, false, false, false, false, false] rfl rfl (by kernel_rfl) (fun _ _ _ h => h) (Or.inl ⟨by rfl, ?_⟩) ?_ ?_
                  rotate_left
                  · intro w'
                    go_simp
                    with_reducible rfl
                  rotate_left
                  · simp only [Act.put, List.setIfInBounds_toArray, List.set_cons_zero, List.set_cons_succ, i64_w, i32_w]
                    rfl
                  refine pure_ (i := 5) (N := some 108) (v := ?_) (a' := ?_) #[true, true, true, true, true, true, false, false, false, false, false, false, false, false, false, false] rfl rfl (by kernel_rfl) (fun _ _ _ h => h) (Or.inl ⟨by rfl, ?_⟩) ?_ ?_
                  rotate_left
                  · intro w'
                    go_simp
                    with_reducible rfl
                  rotate_left
                  · simp only [Act.put, List.setIfInBounds_toArray, List.set_cons_zero, List.set_cons_succ, i64_w, i32_w]
                    rfl
                  refine pure_ (i := 6) (N := some 109) (v := ?_) (a' := ?_) #[true, true, true, true, true, true, true, false, false, false, false, false, false, false, false, false] rfl rfl (by kernel_rfl) (fun _ _ _ h => h) (Or.inl ⟨by rfl, ?_⟩) ?_ ?_
                  rotate_left
                  · intro w'
                    go_simp
                    with_reducible rfl
                  rotate_left
                  · simp only [Act.put, List.setIfInBounds_toArray, List.set_cons_zero, List.set_cons_succ, i64_w, i32_w]
                    rfl
                  refine pure_ (i := 7) (N := some 110) (v := ?_) (a' := ?_) #[true, true, true, true, true, true, true, true, false, false, false, false, false, false, false, false] rfl rfl (by kernel_rfl) (fun _ _ _ h => h) (Or.inl ⟨by rfl, ?_⟩) ?_ ?_
                  rotate_left
                  · intro w'
                    go_simp
                    with_reducible rfl
                  rotate_left
                  · simp only [Act.put, List.setIfInBounds_toArray, List.set_cons_zero, List.set_cons_succ, i64_w, i32_w]
                    rfl
                  refine take_ (i := 8) (N := some 111) (v := ?_) (a' := ?_) #[true, true, true, true, true, true, true, true, true, false, false, false, false, false, false, false] rfl rfl (by kernel_rfl) (fun _ _ _ h => h) (Or.inl ⟨by rfl, ?_⟩) hHeld ?_ ?_
                  rotate_left
                  · intro w' s0
                    obtain ⟨q1, q2⟩ := s0
                    go_simp
                    with_reducible rfl
                  rotate_left
                  · simp only [Act.put, List.setIfInBounds_toArray, List.set_cons_zero, List.set_cons_succ, i64_w, i32_w]
                    rfl
                  refine pure_ (i := 9) (N := some 112) (v := ?_) (a' := ?_) #[true, true, true, true, true, true, true, true, true, true, false, false, false, false, false, false] rfl rfl (by kernel_rfl) (fun _ _ _ h => h) (Or.inl ⟨by rfl, ?_⟩) ?_ ?_
                  rotate_left
                  · intro w'
                    go_simp
                    with_reducible rfl
                  rotate_left
                  · simp only [Act.put, List.setIfInBounds_toArray, List.set_cons_zero, List.set_cons_succ, i64_w, i32_w]
                    rfl
                  refine pure_ (i := 10) (N := some 113) (v := ?_) (a' := ?_) #[true, true, true, true, true, true, true, true, true, true, true, false, false, false, false, false] rfl rfl (by kernel_rfl) (fun _ _ _ h => h) (Or.inl ⟨by rfl, ?_⟩) ?_ ?_
                  rotate_left
                  · intro w'
                    go_simp
                    with_reducible rfl
                  rotate_left
                  · simp only [Act.put, List.setIfInBounds_toArray, List.set_cons_zero, List.set_cons_succ, i64_w, i32_w]
                    rfl
                  refine pure_ (i := 11) (N := some 114) (v := ?_) (a' := ?_) #[true, true, true, true, true, true, true, true, true, true, true, true, false, false, false, false] rfl rfl (by kernel_rfl) (fun _ _ _ h => h) (Or.inl ⟨by rfl, ?_⟩) ?_ ?_
                  rotate_left
                  · intro w'
                    go_simp
                    with_reducible rfl
                  rotate_left
                  · simp only [Act.put, List.setIfInBounds_toArray, List.set_cons_zero, List.set_cons_succ, i64_w, i32_w]
                    rfl
                  refine pure_ (i := 12) (N := some 115) (v := ?_) (a' := ?_) #[true, true, true, true, true, true, true, true, true, true, true, true, true, false, false, false] rfl rfl (by kernel_rfl) (fun _ _ _ h => h) (Or.inl ⟨by rfl, ?_⟩) ?_ ?_
                  rotate_left
                  · intro w'
                    go_simp
                    with_reducible rfl
                  rotate_left
                  · simp only [Act.put, List.setIfInBounds_toArray, List.set_cons_zero, List.set_cons_succ, i64_w, i32_w]
                    rfl
                  refine take_ (i := 13) (N := some 116) (v := ?_) (a' := ?_) #[true, true, true, true, true, true, true, true, true, true, true, true, true, true, false, false] rfl rfl (by kernel_rfl) (fun _ _ _ h => h) (Or.inl ⟨by rfl, ?_⟩) hHeld ?_ ?_
                  rotate_left
                  · intro w' s0
                    obtain ⟨q1, q2⟩ := s0
                    go_simp
                    with_reducible rfl
                  rotate_left
                  · simp only [Act.put, List.setIfInBounds_toArray, List.set_cons_zero, List.set_cons_succ, i64_w, i32_w]
                    rfl
                  refine pure_ (i := 14) (N := some 117) (v := ?_) (a' := ?_) #[true, true, true, true, true, true, true, true, true, true, true, true, true, true, true, false] rfl rfl (by kernel_rfl) (fun _ _ _ h => h) (Or.inl ⟨by rfl, ?_⟩) ?_ ?_
                  rotate_left
                  · intro w'
                    go_simp
                    with_reducible rfl
                  rotate_left
                  · simp only [Act.put, List.setIfInBounds_toArray, List.set_cons_zero, List.set_cons_succ, i64_w, i32_w]
                    rfl
                  refine pure_ (i := 15) (N := some 118) (v := ?_) (a' := ?_) #[true, true, true, true, true, true, true, true, true, true, true, true, true, true, true, true] rfl rfl (by kernel_rfl) (fun _ _ _ h => h) (Or.inl ⟨by rfl, ?_⟩) ?_ ?_
                  rotate_left
                  · intro w'
                    go_simp
                    with_reducible rfl
                  rotate_left
                  · simp only [Act.put, List.setIfInBounds_toArray, List.set_cons_zero, List.set_cons_succ, i64_w, i32_w]
                    rfl
                  refine done_ (by kernel_rfl) ?_
                  clear hwi
                  have hless : (!Op.bytesLess xi.name.toList xj.name.toList) = false := by rw [HLS.out]; rfl
                  go_upto_region 25 with (fail)
                  · rename_i h1
                    exact absurd (hless.symm.trans h1) (by decide)
                  refine start_ (n := 8) (S := fun w' => w'.cell? ⟨zb, (i + 1) * 3, none⟩ = some (.string xj.name) ∧ w'.cell? ⟨q, 0, none⟩ = some (.int .i64 x.kind) ∧ w'.cell? ⟨q, 1, none⟩ = some (.int .i64 x.ten) ∧ w'.cell? ⟨q, 2, none⟩ = some (.int .i64 x.nm) ∧ w'.cell? ⟨q, 3, none⟩ = some (.int .i64 x.bytes)) (ds := []) #[false, false, false, false, false, false, false, false] (by kernel_rfl) rfl rfl ⟨z0, y0, y1, y2, y3⟩ (fun hHeld => ?_)
                  refine pure_ (i := 0) (N := some 119) (v := ?_) (a' := ?_) #[true, false, false, false, false, false, false, false] rfl rfl (by kernel_rfl) (fun _ _ _ h => h) (Or.inl ⟨by rfl, ?_⟩) ?_ ?_
                  rotate_left
                  · intro w'
                    go_simp
                    with_reducible rfl
                  rotate_left
                  · simp only [Act.put, List.setIfInBounds_toArray, List.set_cons_zero, List.set_cons_succ, i64_w, i32_w]
                    rfl
                  refine pure_ (i := 1) (N := some 120) (v := ?_) (a' := ?_) #[true, true, false, false, false, false, false, false] rfl rfl (by kernel_rfl) (fun _ _ _ h => h) (Or.inl ⟨by rfl, ?_⟩) ?_ ?_
                  rotate_left
                  · intro w'
                    go_simp
                    with_reducible rfl
                  rotate_left
                  · simp only [Act.put, List.setIfInBounds_toArray, List.set_cons_zero, List.set_cons_succ, i64_w, i32_w]
                    rfl
                  refine pure_ (i := 2) (N := some 121) (v := ?_) (a' := ?_) #[true, true, true, false, false, false, false, false] rfl rfl (by kernel_rfl) (fun _ _ _ h => h) (Or.inl ⟨by rfl, ?_⟩) ?_ ?_
                  rotate_left
                  · intro w'
                    go_simp
                    with_reducible rfl
                  rotate_left
                  · simp only [Act.put, List.setIfInBounds_toArray, List.set_cons_zero, List.set_cons_succ, i64_w, i32_w]
                    rfl
                  refine pure_ (i := 3) (N := some 122) (v := ?_) (a' := ?_) #[true, true, true, true, false, false, false, false] rfl rfl (by kernel_rfl) (fun _ _ _ h => h) (Or.inl ⟨by rfl, ?_⟩) ?_ ?_
                  rotate_left
                  · intro w'
                    go_simp
                    with_reducible rfl
                  rotate_left
                  · simp only [Act.put, List.setIfInBounds_toArray, List.set_cons_zero, List.set_cons_succ, i64_w, i32_w]
                    rfl
                  refine take_ (i := 4) (N := some 123) (v := ?_) (a' := ?_) #[true, true, true, true, true, false, false, false] rfl rfl (by kernel_rfl) (fun _ _ _ h => h) (Or.inl ⟨by rfl, ?_⟩) hHeld ?_ ?_
                  rotate_left
                  · intro w' s0
                    obtain ⟨q1, q2, q3, q4, q5⟩ := s0
                    go_simp
                    with_reducible rfl
                  rotate_left
                  · simp only [Act.put, List.setIfInBounds_toArray, List.set_cons_zero, List.set_cons_succ, i64_w, i32_w]
                    rfl
                  refine take_ (i := 5) (N := some 124) (v := ?_) (a' := ?_) #[true, true, true, true, true, true, false, false] rfl rfl (by kernel_rfl) (fun _ _ _ h => h) (Or.inl ⟨by rfl, ?_⟩) hHeld ?_ ?_
                  rotate_left
                  · intro w' s0
                    obtain ⟨q1, q2, q3, q4, q5⟩ := s0
                    go_simp
                    with_reducible rfl
                  rotate_left
                  · simp only [Act.put, List.setIfInBounds_toArray, List.set_cons_zero, List.set_cons_succ, i64_w, i32_w]
                    rfl
                  refine one_ (i := 6) (N := some 125) #[true, true, true, true, true, true, true, false] rfl rfl (by kernel_rfl) (by decide) (fun K hK => ?_)
                  refine goes_ Tryz.func29 (by kernel_rfl) rfl #[.agg #[.int .i64 x.kind, .int .i64 x.ten, .int .i64 x.nm, .int .i64 x.bytes]] (by first | rfl | (simp [Act.eval]; done)) rfl rfl (by first | rfl | (simp [Act.eval]; done)) ?_
                  refine Calls.mono (HNM.out _) ?_
                  rintro e w15 ⟨rfl, hb15⟩
                  refine ⟨_, rfl, ?_⟩
                  refine hK.out _ _ ⟨cellOf hb15 hHeld.1, cellOf hb15 hHeld.2.1, cellOf hb15 hHeld.2.2.1, cellOf hb15 hHeld.2.2.2.1, cellOf hb15 hHeld.2.2.2.2⟩ (fun hHeld => ?_)
                  clear hK K
                  refine norm_ (a' := ?_) ?_ ?_
                  rotate_left
                  · show Act.put _ (some 125) _ = _
                    simp only [Act.put, List.setIfInBounds_toArray, List.set_cons_zero, List.set_cons_succ, i64_w, i32_w]
                    rfl
                  refine pure_ (i := 7) (N := some 126) (v := ?_) (a' := ?_) #[true, true, true, true, true, true, true, true] rfl rfl (by kernel_rfl) (fun _ _ _ h => h) (Or.inl ⟨by rfl, ?_⟩) ?_ ?_
                  rotate_left
                  · intro w'
                    go_simp
                    with_reducible rfl
                  rotate_left
                  · simp only [Act.put, List.setIfInBounds_toArray, List.set_cons_zero, List.set_cons_succ, i64_w, i32_w]
                    rfl
                  refine done_ (by kernel_rfl) ?_
                  have hls := (show LsAt wr.drew.drew (some ⟨zb, 0, none⟩) l from HLW.out).below hb15
                  have hbz5 := hbz.drew.drew.trans (hb15.mono hbz.size)
                  have zv := cellOf hb15 (show wr.drew.drew.cell? ⟨zb, (i + 1) * 3 + 1, none⟩ = some (.int .i64 xj.ver) from z1)
                  have HNL := Lib.hid (And.intro hbz5 hls)
                  clear hls hbz5 hb15 hHeld
                  go_wp2_with fail
                  all_goals
                    rename_i hq
                    rw [toList_beq] at hq
                    refine ⟨⟨i + 1 + 1, by omega, by first | rfl | go_num, ?_, HNL.out.1, HNL.out.2⟩, by first | (simp [intOf]; omega) | simp [intOf]⟩
                    rw [HTK.out, hq]
                    rfl
              · have dj : decide ((j : Int) < (l.length : Int)) = false := by simp; omega
                obtain rfl : j = l.length := by omega
                have hfv : fndS (l.take l.length) x.name = verE (S2.1.ar x.t0).ents (nmS x.n0) := by rw [List.take_length]; exact fnd_ver HND.out HP4.out x.name
                rw [hfv]
                have hcv := HCV.out
                generalize verE (S2.1.ar x.t0).ents (nmS x.n0) = vv at *
                have HRD := Lib.hid hrd
                clear hfv hrd ls hbz
                go_wp2_with (go_at_call 28; (with_reducible refine (HAT.out _).mono ?_); rintro e w16 ⟨rfl, hb16⟩; have H16 := Lib.hid (HRD.out.below hb16); obtain ⟨p0, p1, p2⟩ := ow_cell H16.out.ow ai vv hcv; clear hb16)
                exact ⟨⟨k + 1, by omega, by omega, by go_num, HNX.out w16 _ H16.out⟩, by simp [intOf]; omega⟩
          · rw [hp] at HPU HCT
            simp only [if_true] at HCT
            go_upto_region 16 with (first
              | (go_at_call 27; (with_reducible refine (HPU.out _).mono ?_); rintro e w10 ⟨rfl, hb10⟩; have H10 := Lib.hid (H9.out.below hb10); obtain ⟨y0, y1, y2, y3⟩ := H10.out.cells; clear hb10)
              | (go_at_call 28; (with_reducible refine (HAT.out _).mono ?_); rintro e w11 ⟨rfl, hb11⟩; have H11 := Lib.hid (H10.out.below hb11); obtain ⟨p0, p1, p2⟩ := ow_cell H11.out.ow ai ov hov; clear hb11))
            have HZ := Lib.hid (H11.out.set ai (ov + 1))
            rw [← HCT.out] at HZ
            generalize w11.setCell ⟨cb, ai, none⟩ (.int .i64 (ov + 1)) = wz at *
            generalize tagged w10 (tagged w9 o9 0) 0 = oz at *
            clear HR0 HDO HRR
            obtain ⟨y0, y1, y2, y3⟩ := HZ.out.cells
            go_upto_region 20 with (first
              | (go_at_call 19; (with_reducible refine (HT.out _).mono ?_); rintro e w13 ⟨rfl, hb13⟩; have HB13 := Lib.hid hb13; clear hb13)
              | (go_at_call 25; (with_reducible refine Calls.mono (HL.out wz oz HZ.out.m w13 HB13.out) ?_); rintro e w14 ⟨⟨zA, zn, zc⟩, zo, l, rfl, z1, z2, z3, z4, z5⟩; have LS := Lib.hid (ls_of z1); obtain rfl : l.length = zn := (ow_len z1).1; have HB14 := Lib.hid (HB13.out.trans (z3.mono HB13.out.size)); have hlb : (l.length : Int) < 1000 := (by rw [z4.length_eq, List.length_map]; exact HES.out); have HP4 := Lib.hid z4; have HP5 := Lib.hid z5; clear z1 z2 z3 z4 z5; unfold Sl.enc; dsimp only))
            clear y0 y1 y2 y3
            go_wp2_with fail
            go_loopw [17, 16] (fun v f wr2 => ∃ j : Nat, j ≤ l.length ∧ v = .int .i64 (j : Int) ∧ f = .int .i64 (fndS (l.take j) x.name) ∧ Below wz.heap.size wz wr2 ∧ LsAt wr2 zA l) (fun v _ _ => l.length - (intOf v).toNat)
            case atStart => exact ⟨0, by omega, rfl, rfl, HB14.out, LS.out⟩
            case round =>
              obtain ⟨j, hj, rfl, rfl, hbz, ls⟩ := hrel
              have hrd := HZ.out.below hbz
              obtain ⟨y0, y1, y2, y3⟩ := hrd.cells
              by_cases hlt2 : j < l.length
              · have dj : decide ((j : Int) < (l.length : Int)) = true := by simp; omega
                obtain ⟨xj, hxj⟩ : ∃ xj, l[j]? = some xj := ⟨_, List.getElem?_eq_getElem hlt2⟩
                obtain ⟨zb, hzA, z0, z1, z2⟩ := ls j xj hxj
                subst hzA
                have HTK := Lib.hid (show fndS (l.take (j + 1)) x.name = if xj.name == x.name then xj.ver else fndS (l.take j) x.name by
                  rw [← fndS_snoc, List.take_succ_eq_append_getElem hlt2, (List.getElem?_eq_some_iff.1 hxj).2])
                have hjl : (j : Int) < (l.length : Int) := by omega
                have hj0 : (0 : Int) ≤ (j : Int) := by omega
                by_cases hz : j = 0
                · subst hz
                  have dg : decide (((0 : Nat) : Int) > 0) = false := by decide
                  have HLW := Lib.hid ls
                  clear ls hxj
                  go_upto_region 23 with (fail)
                  refine start_ (n := 16) (S := fun _ => True) (ds := []) #[false, false, false, false, false, false, false, false, false, false, false, false, false, false, false, false] (by kernel_rfl) rfl rfl trivial (fun hHeld => ?_)
                  refine pure_ (i := 0) (N := some 103) (v := ?_) (a' := ?_) #[true, false, false, false, false, false, false, false, false, false, false, false, false, false, false, false] rfl rfl (by kernel_rfl) (fun _ _ _ h => h) (Or.inl ⟨by rfl, ?_⟩) ?_ ?_
                  rotate_left
                  · intro w'
                    go_simp
                    with_reducible rfl
                  rotate_left
                  · simp only [Act.put, List.setIfInBounds_toArray, List.set_cons_zero, List.set_cons_succ, i64_w, i32_w]
                    rfl
                  refine pure_ (i := 1) (N := some 104) (v := ?_) (a' := ?_) #[true, true, false, false, false, false, false, false, false, false, false, false, false, false, false, false] rfl rfl (by kernel_rfl) (fun _ _ _ h => h) (Or.inl ⟨by rfl, ?_⟩) ?_ ?_
                  rotate_left
                  · intro w'
                    go_simp
                    with_reducible rfl
                  rotate_left
                  · simp only [Act.put, List.setIfInBounds_toArray, List.set_cons_zero, List.set_cons_succ, i64_w, i32_w]
                    rfl
                  refine pure_ (i := 2) (N := some 105) (v := ?_) (a' := ?_) #[true, true, true, false, false, false, false, false, false, false, false, false, false, false, false, false] rfl rfl (by kernel_rfl) (fun _ _ _ h => h) (Or.inl ⟨by rfl, ?_⟩) ?_ ?_
                  rotate_left
                  · intro w'
                    go_simp
                    with_reducible rfl
                  rotate_left
                  · simp only [Act.put, List.setIfInBounds_toArray, List.set_cons_zero, List.set_cons_succ, i64_w, i32_w]
                    rfl
                  refine pure_ (i := 3) (N := some 106) (v := undef) (a' := ?_) #[true, true, true, true, false, false, false, false, false, false, false, false, false, false, false, false] rfl rfl (by kernel_rfl) (fun _ _ _ h => h) (Or.inr ⟨by rfl, rfl⟩) ?_ ?_
                  rotate_left
                  · simp only [Act.put, List.setIfInBounds_toArray, List.set_cons_zero, List.set_cons_succ, i64_w, i32_w]
                    rfl
                  refine pure_ (i := 4) (N := some 107) (v := undef) (a' := ?_) #[true, true, true, true, true, false, false, false, false, false, false, false, false, false, false, false] rfl rfl (by kernel_rfl) (fun _ _ _ h => h) (Or.inr ⟨by rfl, rfl⟩) ?_ ?_
                  rotate_left
                  · simp only [Act.put, List.setIfInBounds_toArray, List.set_cons_zero, List.set_cons_succ, i64_w, i32_w]
                    rfl
                  refine pure_ (i := 5) (N := some 108) (v := undef) (a' := ?_) #[true, true, true, true, true, true, false, false, false, false, false, false, false, false, false, false] rfl rfl (by kernel_rfl) (fun _ _ _ h => h) (Or.inr ⟨by rfl, rfl⟩) ?_ ?_
                  rotate_left
                  · simp only [Act.put, List.setIfInBounds_toArray, List.set_cons_zero, List.set_cons_succ, i64_w, i32_w]
                    rfl
                  refine pure_ (i := 6) (N := some 109) (v := undef) (a' := ?_) #[true, true, true, true, true, true, true, false, false, false, false, false, false, false, false, false] rfl rfl (by kernel_rfl) (fun _ _ _ h => h) (Or.inr ⟨by rfl, rfl⟩) ?_ ?_
                  rotate_left
                  · simp only [Act.put, List.setIfInBounds_toArray, List.set_cons_zero, List.set_cons_succ, i64_w, i32_w]
                    rfl
                  refine pure_ (i := 7) (N := some 110) (v := undef) (a' := ?_) #[true, true, true, true, true, true, true, true, false, false, false, false, false, false, false, false] rfl rfl (by kernel_rfl) (fun _ _ _ h => h) (Or.inr ⟨by rfl, rfl⟩) ?_ ?_
                  rotate_left
                  · simp only [Act.put, List.setIfInBounds_toArray, List.set_cons_zero, List.set_cons_succ, i64_w, i32_w]
                    rfl
                  refine pure_ (i := 8) (N := some 111) (v := undef) (a' := ?_) #[true, true, true, true, true, true, true, true, true, false, false, false, false, false, false, false] rfl rfl (by kernel_rfl) (fun _ _ _ h => h) (Or.inr ⟨by rfl, rfl⟩) ?_ ?_
                  rotate_left
                  · simp only [Act.put, List.setIfInBounds_toArray, List.set_cons_zero, List.set_cons_succ, i64_w, i32_w]
                    rfl
                  refine pure_ (i := 9) (N := some 112) (v := undef) (a' := ?_) #[true, true, true, true, true, true, true, true, true, true, false, false, false, false, false, false] rfl rfl (by kernel_rfl) (fun _ _ _ h => h) (Or.inr ⟨by rfl, rfl⟩) ?_ ?_
                  rotate_left
                  · simp only [Act.put, List.setIfInBounds_toArray, List.set_cons_zero, List.set_cons_succ, i64_w, i32_w]
                    rfl
                  refine pure_ (i := 10) (N := some 113) (v := undef) (a' := ?_) #[true, true, true, true, true, true, true, true, true, true, true, false, false, false, false, false] rfl rfl (by kernel_rfl) (fun _ _ _ h => h) (Or.inr ⟨by rfl, rfl⟩) ?_ ?_
                  rotate_left
                  · simp only [Act.put, List.setIfInBounds_toArray, List.set_cons_zero, List.set_cons_succ, i64_w, i32_w]
                    rfl
                  refine pure_ (i := 11) (N := some 114) (v := undef) (a' := ?_) #[true, true, true, true, true, true, true, true, true, true, true, true, false, false, false, false] rfl rfl (by kernel_rfl) (fun _ _ _ h => h) (Or.inr ⟨by rfl, rfl⟩) ?_ ?_
                  rotate_left
                  · simp only [Act.put, List.setIfInBounds_toArray, List.set_cons_zero, List.set_cons_succ, i64_w, i32_w]
                    rfl
                  refine pure_ (i := 12) (N := some 115) (v := undef) (a' := ?_) #[true, true, true, true, true, true, true, true, true, true, true, true, true, false, false, false] rfl rfl (by kernel_rfl) (fun _ _ _ h => h) (Or.inr ⟨by rfl, rfl⟩) ?_ ?_
                  rotate_left
                  · simp only [Act.put, List.setIfInBounds_toArray, List.set_cons_zero, List.set_cons_succ, i64_w, i32_w]
                    rfl
                  refine pure_ (i := 13) (N := some 116) (v := undef) (a' := ?_) #[true, true, true, true, true, true, true, true, true, true, true, true, true, true, false, false] rfl rfl (by kernel_rfl) (fun _ _ _ h => h) (Or.inr ⟨by rfl, rfl⟩) ?_ ?_
                  rotate_left
                  · simp only [Act.put, List.setIfInBounds_toArray, List.set_cons_zero, List.set_cons_succ, i64_w, i32_w]
                    rfl
                  refine pure_ (i := 14) (N := some 117) (v := undef) (a' := ?_) #[true, true, true, true, true, true, true, true, true, true, true, true, true, true, true, false] rfl rfl (by kernel_rfl) (fun _ _ _ h => h) (Or.inr ⟨by rfl, rfl⟩) ?_ ?_
                  rotate_left
                  · simp only [Act.put, List.setIfInBounds_toArray, List.set_cons_zero, List.set_cons_succ, i64_w, i32_w]
                    rfl
                  refine pure_ (i := 15) (N := some 118) (v := ?_) (a' := ?_) #[true, true, true, true, true, true, true, true, true, true, true, true, true, true, true, true] rfl rfl (by kernel_rfl) (fun _ _ _ h => h) (Or.inl ⟨by rfl, ?_⟩) ?_ ?_
                  rotate_left
                  · intro w'
                    go_simp
                    with_reducible rfl
                  rotate_left
                  · simp only [Act.put, List.setIfInBounds_toArray, List.set_cons_zero, List.set_cons_succ, i64_w, i32_w]
                    rfl
                  refine done_ (by kernel_rfl) ?_
                  go_upto_region 25 with (fail)
                  refine start_ (n := 8) (S := fun w' => w'.cell? ⟨zb, 0 * 3, none⟩ = some (.string xj.name) ∧ w'.cell? ⟨q, 0, none⟩ = some (.int .i64 x.kind) ∧ w'.cell? ⟨q, 1, none⟩ = some (.int .i64 x.ten) ∧ w'.cell? ⟨q, 2, none⟩ = some (.int .i64 x.nm) ∧ w'.cell? ⟨q, 3, none⟩ = some (.int .i64 x.bytes)) (ds := []) #[false, false, false, false, false, false, false, false] (by kernel_rfl) rfl rfl ⟨z0, y0, y1, y2, y3⟩ (fun hHeld => ?_)
                  refine pure_ (i := 0) (N := some 119) (v := ?_) (a' := ?_) #[true, false, false, false, false, false, false, false] rfl rfl (by kernel_rfl) (fun _ _ _ h => h) (Or.inl ⟨by rfl, ?_⟩) ?_ ?_
                  rotate_left
                  · intro w'
                    go_simp
                    with_reducible rfl
                  rotate_left
                  · simp only [Act.put, List.setIfInBounds_toArray, List.set_cons_zero, List.set_cons_succ, i64_w, i32_w]
                    rfl
                  refine pure_ (i := 1) (N := some 120) (v := ?_) (a' := ?_) #[true, true, false, false, false, false, false, false] rfl rfl (by kernel_rfl) (fun _ _ _ h => h) (Or.inl ⟨by rfl, ?_⟩) ?_ ?_
                  rotate_left
                  · intro w'
                    go_simp
                    with_reducible rfl
                  rotate_left
                  · simp only [Act.put, List.setIfInBounds_toArray, List.set_cons_zero, List.set_cons_succ, i64_w, i32_w]
                    rfl
                  refine pure_ (i := 2) (N := some 121) (v := ?_) (a' := ?_) #[true, true, true, false, false, false, false, false] rfl rfl (by kernel_rfl) (fun _ _ _ h => h) (Or.inl ⟨by rfl, ?_⟩) ?_ ?_
                  rotate_left
                  · intro w'
                    go_simp
                    with_reducible rfl
                  rotate_left
                  · simp only [Act.put, List.setIfInBounds_toArray, List.set_cons_zero, List.set_cons_succ, i64_w, i32_w]
                    rfl
                  refine pure_ (i := 3) (N := some 122) (v := ?_) (a' := ?_) #[true, true, true, true, false, false, false, false] rfl rfl (by kernel_rfl) (fun _ _ _ h => h) (Or.inl ⟨by rfl, ?_⟩) ?_ ?_
                  rotate_left
                  · intro w'
                    go_simp
                    with_reducible rfl
                  rotate_left
                  · simp only [Act.put, List.setIfInBounds_toArray, List.set_cons_zero, List.set_cons_succ, i64_w, i32_w]
                    rfl
                  refine take_ (i := 4) (N := some 123) (v := ?_) (a' := ?_) #[true, true, true, true, true, false, false, false] rfl rfl (by kernel_rfl) (fun _ _ _ h => h) (Or.inl ⟨by rfl, ?_⟩) hHeld ?_ ?_
                  rotate_left
                  · intro w' s0
                    obtain ⟨q1, q2, q3, q4, q5⟩ := s0
                    go_simp
                    with_reducible rfl
                  rotate_left
                  · simp only [Act.put, List.setIfInBounds_toArray, List.set_cons_zero, List.set_cons_succ, i64_w, i32_w]
                    rfl
                  refine take_ (i := 5) (N := some 124) (v := ?_) (a' := ?_) #[true, true, true, true, true, true, false, false] rfl rfl (by kernel_rfl) (fun _ _ _ h => h) (Or.inl ⟨by rfl, ?_⟩) hHeld ?_ ?_
                  rotate_left
                  · intro w' s0
                    obtain ⟨q1, q2, q3, q4, q5⟩ := s0
                    go_simp
                    with_reducible rfl
                  rotate_left
                  · simp only [Act.put, List.setIfInBounds_toArray, List.set_cons_zero, List.set_cons_succ, i64_w, i32_w]
                    rfl
                  refine one_ (i := 6) (N := some 125) #[true, true, true, true, true, true, true, false] rfl rfl (by kernel_rfl) (by decide) (fun K hK => ?_)
                  refine goes_ Tryz.func29 (by kernel_rfl) rfl #[.agg #[.int .i64 x.kind, .int .i64 x.ten, .int .i64 x.nm, .int .i64 x.bytes]] (by first | rfl | (simp [Act.eval]; done)) rfl rfl (by first | rfl | (simp [Act.eval]; done)) ?_
                  refine Calls.mono (HNM.out _) ?_
                  rintro e w15 ⟨rfl, hb15⟩
                  refine ⟨_, rfl, ?_⟩
                  refine hK.out _ _ ⟨cellOf hb15 hHeld.1, cellOf hb15 hHeld.2.1, cellOf hb15 hHeld.2.2.1, cellOf hb15 hHeld.2.2.2.1, cellOf hb15 hHeld.2.2.2.2⟩ (fun hHeld => ?_)
                  clear hK K
                  refine norm_ (a' := ?_) ?_ ?_
                  rotate_left
                  · show Act.put _ (some 125) _ = _
                    simp only [Act.put, List.setIfInBounds_toArray, List.set_cons_zero, List.set_cons_succ, i64_w, i32_w]
                    rfl
                  refine pure_ (i := 7) (N := some 126) (v := ?_) (a' := ?_) #[true, true, true, true, true, true, true, true] rfl rfl (by kernel_rfl) (fun _ _ _ h => h) (Or.inl ⟨by rfl, ?_⟩) ?_ ?_
                  rotate_left
                  · intro w'
                    go_simp
                    with_reducible rfl
                  rotate_left
                  · simp only [Act.put, List.setIfInBounds_toArray, List.set_cons_zero, List.set_cons_succ, i64_w, i32_w]
                    rfl
                  refine done_ (by kernel_rfl) ?_
                  have hls := (show LsAt wr.drew.drew (some ⟨zb, 0, none⟩) l from HLW.out).below hb15
                  have hbz5 := hbz.drew.drew.trans (hb15.mono hbz.size)
                  have zv := cellOf hb15 (show wr.drew.drew.cell? ⟨zb, 0 * 3 + 1, none⟩ = some (.int .i64 xj.ver) from z1)
                  have HNL := Lib.hid (And.intro hbz5 hls)
                  clear hls hbz5 hb15 hHeld
                  go_wp2_with fail
                  all_goals
                    rename_i hq
                    rw [toList_beq] at hq
                    refine ⟨⟨0 + 1, by omega, by first | rfl | go_num, ?_, HNL.out.1, HNL.out.2⟩, by first | (simp [intOf]; omega) | simp [intOf]⟩
                    rw [HTK.out, hq]
                    rfl
                · obtain ⟨i, rfl⟩ : ∃ i, j = i + 1 := ⟨j - 1, by omega⟩
                  obtain ⟨xi, hxi⟩ : ∃ xi, l[i]? = some xi := ⟨_, List.getElem?_eq_getElem (by omega)⟩
                  obtain ⟨zb2, hzA2, u0, u1, u2⟩ := ls i xi hxi
                  injection hzA2 with hzA2
                  injection hzA2 with hzA2 hzo hzs
                  subst hzA2
                  clear hzo hzs
                  have hless := less_next HND.out HP4.out HP5.out hxi hxj
                  have hij : ((i + 1 : Nat) : Int) = (i : Int) + 1 := rfl
                  have dg : decide ((i : Int) + 1 > 0) = true := decide_eq_true (by omega)
                  have hil : (i : Int) < (l.length : Int) := by omega
                  have hi0 : (0 : Int) ≤ (i : Int) := by omega
                  rw [hij]
                  rw [hij] at hjl hj0 dj
                  clear hij u1 u2 hxi hxj hz
                  have HLW := Lib.hid ls
                  clear ls
                  have HLS := Lib.hid hless
                  clear hless
                  go_upto_region 23 with (fail)
                  have hwi : wrap64 (i : Int) = (i : Int) := by unfold wrap64; omega
                  refine start_ (n := 16) (S := fun w' => w'.cell? ⟨zb, i * 3, none⟩ = some (.string xi.name) ∧ w'.cell? ⟨zb, (i + 1) * 3, none⟩ = some (.string xj.name)) (ds := []) #[false, false, false, false, false, false, false, false, false, false, false, false, false, false, false, false] (by kernel_rfl) rfl rfl ⟨u0, z0⟩ (fun hHeld => ?_)
                  refine pure_ (i := 0) (N := some 103) (v := ?_) (a' := ?_) #[true, false, false, false, false, false, false, false, false, false, false, false, false, false, false, false] rfl rfl (by kernel_rfl) (fun _ _ _ h => h) (Or.inl ⟨by rfl, ?_⟩) ?_ ?_
                  rotate_left
                  · intro w'
                    go_simp
                    with_reducible rfl
                  rotate_left
                  · simp only [Act.put, List.setIfInBounds_toArray, List.set_cons_zero, List.set_cons_succ, i64_w, i32_w]
                    rfl
                  refine pure_ (i := 1) (N := some 104) (v := ?_) (a' := ?_) #[true, true, false, false, false, false, false, false, false, false, false, false, false, false, false, false] rfl rfl (by kernel_rfl) (fun _ _ _ h => h) (Or.inl ⟨by rfl, ?_⟩) ?_ ?_
                  rotate_left
                  · intro w'
                    go_simp
                    with_reducible rfl
                  rotate_left
                  · simp only [Act.put, List.setIfInBounds_toArray, List.set_cons_zero, List.set_cons_succ, i64_w, i32_w]
                    rfl
                  refine pure_ (i := 2) (N := some 105) (v := ?_) (a' := ?_) #[true, true, true, false, false, false, false, false, false, false, false, false, false, false, false, false] rfl rfl (by kernel_rfl) (fun _ _ _ h => h) (Or.inl ⟨by rfl, ?_⟩) ?_ ?_
                  rotate_left
                  · intro w'
                    go_simp
                    with_reducible rfl
                  rotate_left
                  · simp only [Act.put, List.setIfInBounds_toArray, List.set_cons_zero, List.set_cons_succ, i64_w, i32_w]
                    rfl
                  refine pure_ (i := 3) (N := some 106) (v := ?_) (a' := ?_) #[true, true, true, true, false, false, false, false, false, false, false, false, false, false, false, false] rfl rfl (by kernel_rfl) (fun _ _ _ h => h) (Or.inl ⟨by rfl, ?_⟩) ?_ ?_
                  rotate_left
                  · intro w'
                    go_simp
                    with_reducible rfl
                  rotate_left
                  · simp only [Act.put, List.setIfInBounds_toArray, List.set_cons_zero, List.set_cons_succ, i64_w, i32_w]
                    rfl
                  refine pure_ (i := 4) (N := some 107) (v := ?_) (a' := ?_) #[true, true, true, true, true, false, false, false, false, false, false, false, false, false, false, false] rfl rfl (by kernel_rfl) (fun _ _ _ h => h) (Or.inl ⟨by rfl, ?_⟩) ?_ ?_
                  rotate_left
                  · intro w'
                    go_simp
                    with_reducible rfl
                  rotate_left
                  · simp only [Act.put, List.setIfInBounds_toArray, List.set_cons_zero, List.set_cons_succ, i64_w, i32_w]
                    rfl
                  refine pure_ (i := 5) (N := some 108) (v := ?_) (a' := ?_) #[true, true, true, true, true, true, false, false, false, false, false, false, false, false, false, false] rfl rfl (by kernel_rfl) (fun _ _ _ h => h) (Or.inl ⟨by rfl, ?_⟩) ?_ ?_
                  rotate_left
                  · intro w'
                    go_simp
                    with_reducible rfl
                  rotate_left
                  · simp only [Act.put, List.setIfInBounds_toArray, List.set_cons_zero, List.set_cons_succ, i64_w, i32_w]
                    rfl
                  refine pure_ (i := 6) (N := some 109) (v := ?_) (a' := ?_) #[true, true, true, true, true, true, true, false, false, false, false, false, false, false, false, false] rfl rfl (by kernel_rfl) (fun _ _ _ h => h) (Or.inl ⟨by rfl, ?_⟩) ?_ ?_
                  rotate_left
                  · intro w'
                    go_simp
                    with_reducible rfl
                  rotate_left
                  · simp only [Act.put, List.setIfInBounds_toArray, List.set_cons_zero, List.set_cons_succ, i64_w, i32_w]
                    rfl
                  refine pure_ (i := 7) (N := some 110) (v := ?_) (a' := ?_) #[true, true, true, true, true, true, true, true, false, false, false, false, false, false, false, false] rfl rfl (by kernel_rfl) (fun _ _ _ h => h) (Or.inl ⟨by rfl, ?_⟩) ?_ ?_
                  rotate_left
                  · intro w'
                    go_simp
                    with_reducible rfl
                  rotate_left
                  · simp only [Act.put, List.setIfInBounds_toArray, List.set_cons_zero, List.set_cons_succ, i64_w, i32_w]
                    rfl
                  refine take_ (i := 8) (N := some 111) (v := ?_) (a' := ?_) #[true, true, true, true, true, true, true, true, true, false, false, false, false, false, false, false] rfl rfl (by kernel_rfl) (fun _ _ _ h => h) (Or.inl ⟨by rfl, ?_⟩) hHeld ?_ ?_
                  rotate_left
                  · intro w' s0
                    obtain ⟨q1, q2⟩ := s0
                    go_simp
                    with_reducible rfl
                  rotate_left
                  · simp only [Act.put, List.setIfInBounds_toArray, List.set_cons_zero, List.set_cons_succ, i64_w, i32_w]
                    rfl
                  refine pure_ (i := 9) (N := some 112) (v := ?_) (a' := ?_) #[true, true, true, true, true, true, true, true, true, true, false, false, false, false, false, false] rfl rfl (by kernel_rfl) (fun _ _ _ h => h) (Or.inl ⟨by rfl, ?_⟩) ?_ ?_
                  rotate_left
                  · intro w'
                    go_simp
                    with_reducible rfl
                  rotate_left
                  · simp only [Act.put, List.setIfInBounds_toArray, List.set_cons_zero, List.set_cons_succ, i64_w, i32_w]
                    rfl
                  refine pure_ (i := 10) (N := some 113) (v := ?_) (a' := ?_) #[true, true, true, true, true, true, true, true, true, true, true, false, false, false, false, false] rfl rfl (by kernel_rfl) (fun _ _ _ h => h) (Or.inl ⟨by rfl, ?_⟩) ?_ ?_
                  rotate_left
                  · intro w'
                    go_simp
                    with_reducible rfl
                  rotate_left
                  · simp only [Act.put, List.setIfInBounds_toArray, List.set_cons_zero, List.set_cons_succ, i64_w, i32_w]
                    rfl
                  refine pure_ (i := 11) (N := some 114) (v := ?_) (a' := ?_) #[true, true, true, true, true, true, true, true, true, true, true, true, false, false, false, false] rfl rfl (by kernel_rfl) (fun _ _ _ h => h) (Or.inl ⟨by rfl, ?_⟩) ?_ ?_
                  rotate_left
                  · intro w'
                    go_simp
                    with_reducible rfl
                  rotate_left
                  · simp only [Act.put, List.setIfInBounds_toArray, List.set_cons_zero, List.set_cons_succ, i64_w, i32_w]
                    rfl
                  refine pure_ (i := 12) (N := some 115) (v := ?_) (a' := ?_) #[true, true, true, true, true, true, true, true, true, true, true, true, true, false, false, false] rfl rfl (by kernel_rfl) (fun _ _ _ h => h) (Or.inl ⟨by rfl, ?_⟩) ?_ ?_
                  rotate_left
                  · intro w'
                    go_simp
                    with_reducible rfl
                  rotate_left
                  · simp only [Act.put, List.setIfInBounds_toArray, List.set_cons_zero, List.set_cons_succ, i64_w, i32_w]
                    rfl
                  refine take_ (i := 13) (N := some 116) (v := ?_) (a' := ?_) #[true, true, true, true, true, true, true, true, true, true, true, true, true, true, false, false] rfl rfl (by kernel_rfl) (fun _ _ _ h => h) (Or.inl ⟨by rfl, ?_⟩) hHeld ?_ ?_
                  rotate_left
                  · intro w' s0
                    obtain ⟨q1, q2⟩ := s0
                    go_simp
                    with_reducible rfl
                  rotate_left
                  · simp only [Act.put, List.setIfInBounds_toArray, List.set_cons_zero, List.set_cons_succ, i64_w, i32_w]
                    rfl
                  refine pure_ (i := 14) (N := some 117) (v := ?_) (a' := ?_) #[true, true, true, true, true, true, true, true, true, true, true, true, true, true, true, false] rfl rfl (by kernel_rfl) (fun _ _ _ h => h) (Or.inl ⟨by rfl, ?_⟩) ?_ ?_
                  rotate_left
                  · intro w'
                    go_simp
                    with_reducible rfl
                  rotate_left
                  · simp only [Act.put, List.setIfInBounds_toArray, List.set_cons_zero, List.set_cons_succ, i64_w, i32_w]
                    rfl
                  refine pure_ (i := 15) (N := some 118) (v := ?_) (a' := ?_) #[true, true, true, true, true, true, true, true, true, true, true, true, true, true, true, true] rfl rfl (by kernel_rfl) (fun _ _ _ h => h) (Or.inl ⟨by rfl, ?_⟩) ?_ ?_
                  rotate_left
                  · intro w'
                    go_simp
                    with_reducible rfl
                  rotate_left
                  · simp only [Act.put, List.setIfInBounds_toArray, List.set_cons_zero, List.set_cons_succ, i64_w, i32_w]
                    rfl
                  refine done_ (by kernel_rfl) ?_
                  clear hwi
                  have hless : (!Op.bytesLess xi.name.toList xj.name.toList) = false := by rw [HLS.out]; rfl
                  go_upto_region 25 with (fail)
                  · rename_i h1
                    exact absurd (hless.symm.trans h1) (by decide)
                  refine start_ (n := 8) (S := fun w' => w'.cell? ⟨zb, (i + 1) * 3, none⟩ = some (.string xj.name) ∧ w'.cell? ⟨q, 0, none⟩ = some (.int .i64 x.kind) ∧ w'.cell? ⟨q, 1, none⟩ = some (.int .i64 x.ten) ∧ w'.cell? ⟨q, 2, none⟩ = some (.int .i64 x.nm) ∧ w'.cell? ⟨q, 3, none⟩ = some (.int .i64 x.bytes)) (ds := []) #[false, false, false, false, false, false, false, false] (by kernel_rfl) rfl rfl ⟨z0, y0, y1, y2, y3⟩ (fun hHeld => ?_)
                  refine pure_ (i := 0) (N := some 119) (v := ?_) (a' := ?_) #[true, false, false, false, false, false, false, false] rfl rfl (by kernel_rfl) (fun _ _ _ h => h) (Or.inl ⟨by rfl, ?_⟩) ?_ ?_
                  rotate_left
                  · intro w'
                    go_simp
                    with_reducible rfl
                  rotate_left
                  · simp only [Act.put, List.setIfInBounds_toArray, List.set_cons_zero, List.set_cons_succ, i64_w, i32_w]
                    rfl
                  refine pure_ (i := 1) (N := some 120) (v := ?_) (a' := ?_) #[true, true, false, false, false, false, false, false] rfl rfl (by kernel_rfl) (fun _ _ _ h => h) (Or.inl ⟨by rfl, ?_⟩) ?_ ?_
                  rotate_left
                  · intro w'
                    go_simp
                    with_reducible rfl
                  rotate_left
                  · simp only [Act.put, List.setIfInBounds_toArray, List.set_cons_zero, List.set_cons_succ, i64_w, i32_w]
                    rfl
                  refine pure_ (i := 2) (N := some 121) (v := ?_) (a' := ?_) #[true, true, true, false, false, false, false, false] rfl rfl (by kernel_rfl) (fun _ _ _ h => h) (Or.inl ⟨by rfl, ?_⟩) ?_ ?_
                  rotate_left
                  · intro w'
                    go_simp
                    with_reducible rfl
                  rotate_left
                  · simp only [Act.put, List.setIfInBounds_toArray, List.set_cons_zero, List.set_cons_succ, i64_w, i32_w]
                    rfl
                  refine pure_ (i := 3) (N := some 122) (v := ?_) (a' := ?_) #[true, true, true, true, false, false, false, false] rfl rfl (by kernel_rfl) (fun _ _ _ h => h) (Or.inl ⟨by rfl, ?_⟩) ?_ ?_
                  rotate_left
                  · intro w'
                    go_simp
                    with_reducible rfl
                  rotate_left
                  · simp only [Act.put, List.setIfInBounds_toArray, List.set_cons_zero, List.set_cons_succ, i64_w, i32_w]
                    rfl
                  refine take_ (i := 4) (N := some 123) (v := ?_) (a' := ?_) #[true, true, true, true, true, false, false, false] rfl rfl (by kernel_rfl) (fun _ _ _ h => h) (Or.inl ⟨by rfl, ?_⟩) hHeld ?_ ?_
                  rotate_left
                  · intro w' s0
                    obtain ⟨q1, q2, q3, q4, q5⟩ := s0
                    go_simp
                    with_reducible rfl
                  rotate_left
                  · simp only [Act.put, List.setIfInBounds_toArray, List.set_cons_zero, List.set_cons_succ, i64_w, i32_w]
                    rfl
                  refine take_ (i := 5) (N := some 124) (v := ?_) (a' := ?_) #[true, true, true, true, true, true, false, false] rfl rfl (by kernel_rfl) (fun _ _ _ h => h) (Or.inl ⟨by rfl, ?_⟩) hHeld ?_ ?_
                  rotate_left
                  · intro w' s0
                    obtain ⟨q1, q2, q3, q4, q5⟩ := s0
                    go_simp
                    with_reducible rfl
                  rotate_left
                  · simp only [Act.put, List.setIfInBounds_toArray, List.set_cons_zero, List.set_cons_succ, i64_w, i32_w]
                    rfl
                  refine one_ (i := 6) (N := some 125) #[true, true, true, true, true, true, true, false] rfl rfl (by kernel_rfl) (by decide) (fun K hK => ?_)
                  refine goes_ Tryz.func29 (by kernel_rfl) rfl #[.agg #[.int .i64 x.kind, .int .i64 x.ten, .int .i64 x.nm, .int .i64 x.bytes]] (by first | rfl | (simp [Act.eval]; done)) rfl rfl (by first | rfl | (simp [Act.eval]; done)) ?_
                  refine Calls.mono (HNM.out _) ?_
                  rintro e w15 ⟨rfl, hb15⟩
                  refine ⟨_, rfl, ?_⟩
                  refine hK.out _ _ ⟨cellOf hb15 hHeld.1, cellOf hb15 hHeld.2.1, cellOf hb15 hHeld.2.2.1, cellOf hb15 hHeld.2.2.2.1, cellOf hb15 hHeld.2.2.2.2⟩ (fun hHeld => ?_)
                  clear hK K
                  refine norm_ (a' := ?_) ?_ ?_
                  rotate_left
                  · show Act.put _ (some 125) _ = _
                    simp only [Act.put, List.setIfInBounds_toArray, List.set_cons_zero, List.set_cons_succ, i64_w, i32_w]
                    rfl
                  refine pure_ (i := 7) (N := some 126) (v := ?_) (a' := ?_) #[true, true, true, true, true, true, true, true] rfl rfl (by kernel_rfl) (fun _ _ _ h => h) (Or.inl ⟨by rfl, ?_⟩) ?_ ?_
                  rotate_left
                  · intro w'
                    go_simp
                    with_reducible rfl
                  rotate_left
                  · simp only [Act.put, List.setIfInBounds_toArray, List.set_cons_zero, List.set_cons_succ, i64_w, i32_w]
                    rfl
                  refine done_ (by kernel_rfl) ?_
                  have hls := (show LsAt wr.drew.drew (some ⟨zb, 0, none⟩) l from HLW.out).below hb15
                  have hbz5 := hbz.drew.drew.trans (hb15.mono hbz.size)
                  have zv := cellOf hb15 (show wr.drew.drew.cell? ⟨zb, (i + 1) * 3 + 1, none⟩ = some (.int .i64 xj.ver) from z1)
                  have HNL := Lib.hid (And.intro hbz5 hls)
                  clear hls hbz5 hb15 hHeld
                  go_wp2_with fail
                  all_goals
                    rename_i hq
                    rw [toList_beq] at hq
                    refine ⟨⟨i + 1 + 1, by omega, by first | rfl | go_num, ?_, HNL.out.1, HNL.out.2⟩, by first | (simp [intOf]; omega) | simp [intOf]⟩
                    rw [HTK.out, hq]
                    rfl
              · have dj : decide ((j : Int) < (l.length : Int)) = false := by simp; omega
                obtain rfl : j = l.length := by omega
                have hfv : fndS (l.take l.length) x.name = verE (S2.1.ar x.t0).ents (nmS x.n0) := by rw [List.take_length]; exact fnd_ver HND.out HP4.out x.name
                rw [hfv]
                have hcv := HCV.out
                generalize verE (S2.1.ar x.t0).ents (nmS x.n0) = vv at *
                have HRD := Lib.hid hrd
                clear hfv hrd ls hbz
                go_wp2_with (go_at_call 28; (with_reducible refine (HAT.out _).mono ?_); rintro e w16 ⟨rfl, hb16⟩; have H16 := Lib.hid (HRD.out.below hb16); obtain ⟨p0, p1, p2⟩ := ow_cell H16.out.ow ai vv hcv; clear hb16)
                exact ⟨⟨k + 1, by omega, by omega, by go_num, HNX.out w16 _ H16.out⟩, by simp [intOf]; omega⟩
        · have h0 : (r == 0) = false := beq_eq_false_iff_ne.2 h
          rw [if_neg h] at HCT
          go_upto_region 16 with (fail)
          have HZ := Lib.hid H9.out
          rw [← HCT.out] at HZ
          generalize w9 = wz at *
          generalize o9 = oz at *
          clear HR0 HDO HRR
          obtain ⟨y0, y1, y2, y3⟩ := HZ.out.cells
          go_upto_region 20 with (first
            | (go_at_call 19; (with_reducible refine (HT.out _).mono ?_); rintro e w13 ⟨rfl, hb13⟩; have HB13 := Lib.hid hb13; clear hb13)
            | (go_at_call 25; (with_reducible refine Calls.mono (HL.out wz oz HZ.out.m w13 HB13.out) ?_); rintro e w14 ⟨⟨zA, zn, zc⟩, zo, l, rfl, z1, z2, z3, z4, z5⟩; have LS := Lib.hid (ls_of z1); obtain rfl : l.length = zn := (ow_len z1).1; have HB14 := Lib.hid (HB13.out.trans (z3.mono HB13.out.size)); have hlb : (l.length : Int) < 1000 := (by rw [z4.length_eq, List.length_map]; exact HES.out); have HP4 := Lib.hid z4; have HP5 := Lib.hid z5; clear z1 z2 z3 z4 z5; unfold Sl.enc; dsimp only))
          clear y0 y1 y2 y3
          go_wp2_with fail
          go_loopw [17, 16] (fun v f wr2 => ∃ j : Nat, j ≤ l.length ∧ v = .int .i64 (j : Int) ∧ f = .int .i64 (fndS (l.take j) x.name) ∧ Below wz.heap.size wz wr2 ∧ LsAt wr2 zA l) (fun v _ _ => l.length - (intOf v).toNat)
          case atStart => exact ⟨0, by omega, rfl, rfl, HB14.out, LS.out⟩
          case round =>
            obtain ⟨j, hj, rfl, rfl, hbz, ls⟩ := hrel
            have hrd := HZ.out.below hbz
            obtain ⟨y0, y1, y2, y3⟩ := hrd.cells
            by_cases hlt2 : j < l.length
            · have dj : decide ((j : Int) < (l.length : Int)) = true := by simp; omega
              obtain ⟨xj, hxj⟩ : ∃ xj, l[j]? = some xj := ⟨_, List.getElem?_eq_getElem hlt2⟩
              obtain ⟨zb, hzA, z0, z1, z2⟩ := ls j xj hxj
              subst hzA
              have HTK := Lib.hid (show fndS (l.take (j + 1)) x.name = if xj.name == x.name then xj.ver else fndS (l.take j) x.name by
                rw [← fndS_snoc, List.take_succ_eq_append_getElem hlt2, (List.getElem?_eq_some_iff.1 hxj).2])
              have hjl : (j : Int) < (l.length : Int) := by omega
              have hj0 : (0 : Int) ≤ (j : Int) := by omega
              by_cases hz : j = 0
              · subst hz
                have dg : decide (((0 : Nat) : Int) > 0) = false := by decide
                have HLW := Lib.hid ls
                clear ls hxj
                go_upto_region 23 with (fail)
                refine start_ (n := 16) (S := fun _ => True) (ds := []) #[false, false, false, false, false, false, false, false, false, false, false, false, false, false, false, false] (by kernel_rfl) rfl rfl trivial (fun hHeld => ?_)
                refine pure_ (i := 0) (N := some 103) (v := ?_) (a' := ?_) #[true, false, false, false, false, false, false, false, false, false, false, false, false, false, false, false] rfl rfl (by kernel_rfl) (fun _ _ _ h => h) (Or.inl ⟨by rfl, ?_⟩) ?_ ?_
                rotate_left
                · intro w'
                  go_simp
                  with_reducible rfl
                rotate_left
                · simp only [Act.put, List.setIfInBounds_toArray, List.set_cons_zero, List.set_cons_succ, i64_w, i32_w]
                  rfl
                refine pure_ (i := 1) (N := some 104) (v := ?_) (a' := ?_) #[true, true, false, false, false, false, false, false, false, false, false, false, false, false, false, false] rfl rfl (by kernel_rfl) (fun _ _ _ h => h) (Or.inl ⟨by rfl, ?_⟩) ?_ ?_
                rotate_left
                · intro w'
                  go_simp
                  with_reducible rfl
                rotate_left
                · simp only [Act.put, List.setIfInBounds_toArray, List.set_cons_zero, List.set_cons_succ, i64_w, i32_w]
                  rfl
                refine pure_ (i := 2) (N := some 105) (v := ?_) (a' := ?_) #[true, true, true, false, false, false, false, false, false, false, false, false, false, false, false, false] rfl rfl (by kernel_rfl) (fun _ _ _ h => h) (Or.inl ⟨by rfl, ?_⟩) ?_ ?_
                rotate_left
                · intro w'
                  go_simp
                  with_reducible rfl
                rotate_left
                · simp only [Act.put, List.setIfInBounds_toArray, List.set_cons_zero, List.set_cons_succ, i64_w, i32_w]
                  rfl
                refine pure_ (i := 3) (N := some 106) (v := undef) (a' := ?_) #[true, true, true, true, false, false, false, false, false, false, false, false, false, false, false, false] rfl rfl (by kernel_rfl) (fun _ _ _ h => h) (Or.inr ⟨by rfl, rfl⟩) ?_ ?_
                rotate_left
                · simp only [Act.put, List.setIfInBounds_toArray, List.set_cons_zero, List.set_cons_succ, i64_w, i32_w]
                  rfl
                refine pure_ (i := 4) (N := some 107) (v := undef) (a' := ?_) #[true, true, true, true, true, false, false, false, false, false, false, false, false, false, false, false] rfl rfl (by kernel_rfl) (fun _ _ _ h => h) (Or.inr ⟨by rfl, rfl⟩) ?_ ?_
                rotate_left
                · simp only [Act.put, List.setIfInBounds_toArray, List.set_cons_zero, List.set_cons_succ, i64_w, i32_w]
                  rfl
                refine pure_ (i := 5) (N := some 108) (v := undef) (a' := ?_) #[true, true, true, true, true, true, false, false, false, false, false, false, false, false, false, false] rfl rfl (by kernel_rfl) (fun _ _ _ h => h) (Or.inr ⟨by rfl, rfl⟩) ?_ ?_
                rotate_left
                · simp only [Act.put, List.setIfInBounds_toArray, List.set_cons_zero, List.set_cons_succ, i64_w, i32_w]
                  rfl
                refine pure_ (i := 6) (N := some 109) (v := undef) (a' := ?_) #[true, true, true, true, true, true, true, false, false, false, false, false, false, false, false, false] rfl rfl (by kernel_rfl) (fun _ _ _ h => h) (Or.inr ⟨by rfl, rfl⟩) ?_ ?_
                rotate_left
                · simp only [Act.put, List.setIfInBounds_toArray, List.set_cons_zero, List.set_cons_succ, i64_w, i32_w]
                  rfl
                refine pure_ (i := 7) (N := some 110) (v := undef) (a' := ?_) #[true, true, true, true, true, true, true, true, false, false, false, false, false, false, false, false] rfl rfl (by kernel_rfl) (fun _ _ _ h => h) (Or.inr ⟨by rfl, rfl⟩) ?_ ?_
                rotate_left
                · simp only [Act.put, List.setIfInBounds_toArray, List.set_cons_zero, List.set_cons_succ, i64_w, i32_w]
                  rfl
                refine pure_ (i := 8) (N := some 111) (v := undef) (a' := ?_) #[true, true, true, true, true, true, true, true, true, false, false, false, false, false, false, false] rfl rfl (by kernel_rfl) (fun _ _ _ h => h) (Or.inr ⟨by rfl, rfl⟩) ?_ ?_
                rotate_left
                · simp only [Act.put, List.setIfInBounds_toArray, List.set_cons_zero, List.set_cons_succ, i64_w, i32_w]
                  rfl
                refine pure_ (i := 9) (N := some 112) (v := undef) (a' := ?_) #[true, true, true, true, true, true, true, true, true, true, false, false, false, false, false, false] rfl rfl (by kernel_rfl) (fun _ _ _ h => h) (Or.inr ⟨by rfl, rfl⟩) ?_ ?_
                rotate_left
                · simp only [Act.put, List.setIfInBounds_toArray, List.set_cons_zero, List.set_cons_succ, i64_w, i32_w]
                  rfl
                refine pure_ (i := 10) (N := some 113) (v := undef) (a' := ?_) #[true, true, true, true, true, true, true, true, true, true, true, false, false, false, false, false] rfl rfl (by kernel_rfl) (fun _ _ _ h => h) (Or.inr ⟨by rfl, rfl⟩) ?_ ?_
                rotate_left
                · simp only [Act.put, List.setIfInBounds_toArray, List.set_cons_zero, List.set_cons_succ, i64_w, i32_w]
                  rfl
                refine pure_ (i := 11) (N := some 114) (v := undef) (a' := ?_) #[true, true, true, true, true, true, true, true, true, true, true, true, false, false, false, false] rfl rfl (by kernel_rfl) (fun _ _ _ h => h) (Or.inr ⟨by rfl, rfl⟩) ?_ ?_
                rotate_left
                · simp only [Act.put, List.setIfInBounds_toArray, List.set_cons_zero, List.set_cons_succ, i64_w, i32_w]
                  rfl
                refine pure_ (i := 12) (N := some 115) (v := undef) (a' := ?_) #[true, true, true, true, true, true, true, true, true, true, true, true, true, false, false, false] rfl rfl (by kernel_rfl) (fun _ _ _ h => h) (Or.inr ⟨by rfl, rfl⟩) ?_ ?_
                rotate_left
                · simp only [Act.put, List.setIfInBounds_toArray, List.set_cons_zero, List.set_cons_succ, i64_w, i32_w]
                  rfl
                refine pure_ (i := 13) (N := some 116) (v := undef) (a' := ?_) #[true, true, true, true, true, true, true, true, true, true, true, true, true, true, false, false] rfl rfl (by kernel_rfl) (fun _ _ _ h => h) (Or.inr ⟨by rfl, rfl⟩) ?_ ?_
                rotate_left
                · simp only [Act.put, List.setIfInBounds_toArray, List.set_cons_zero, List.set_cons_succ, i64_w, i32_w]
                  rfl
                refine pure_ (i := 14) (N := some 117) (v := undef) (a' := ?_) #[true, true, true, true, true, true, true, true, true, true, true, true, true, true, true, false] rfl rfl (by kernel_rfl) (fun _ _ _ h => h) (Or.inr ⟨by rfl, rfl⟩) ?_ ?_
                rotate_left
                · simp only [Act.put, List.setIfInBounds_toArray, List.set_cons_zero, List.set_cons_succ, i64_w, i32_w]
                  rfl
                refine pure_ (i := 15) (N := some 118) (v := ?_) (a' := ?_) #[true, true, true, true, true, true, true, true, true, true, true, true, true, true, true, true] rfl rfl (by kernel_rfl) (fun _ _ _ h => h) (Or.inl ⟨by rfl, ?_⟩) ?_ ?_
                rotate_left
                · intro w'
                  go_simp
                  with_reducible rfl
                rotate_left
                · simp only [Act.put, List.setIfInBounds_toArray, List.set_cons_zero, List.set_cons_succ, i64_w, i32_w]
                  rfl
                refine done_ (by kernel_rfl) ?_
                go_upto_region 25 with (fail)
                refine start_ (n := 8) (S := fun w' => w'.cell? ⟨zb, 0 * 3, none⟩ = some (.string xj.name) ∧ w'.cell? ⟨q, 0, none⟩ = some (.int .i64 x.kind) ∧ w'.cell? ⟨q, 1, none⟩ = some (.int .i64 x.ten) ∧ w'.cell? ⟨q, 2, none⟩ = some (.int .i64 x.nm) ∧ w'.cell? ⟨q, 3, none⟩ = some (.int .i64 x.bytes)) (ds := []) #[false, false, false, false, false, false, false, false] (by kernel_rfl) rfl rfl ⟨z0, y0, y1, y2, y3⟩ (fun hHeld => ?_)
                refine pure_ (i := 0) (N := some 119) (v := ?_) (a' := ?_) #[true, false, false, false, false, false, false, false] rfl rfl (by kernel_rfl) (fun _ _ _ h => h) (Or.inl ⟨by rfl, ?_⟩) ?_ ?_
                rotate_left
                · intro w'
                  go_simp
                  with_reducible rfl
                rotate_left
                · simp only [Act.put, List.setIfInBounds_toArray, List.set_cons_zero, List.set_cons_succ, i64_w, i32_w]
                  rfl
                refine pure_ (i := 1) (N := some 120) (v := ?_) (a' := ?_) #[true, true, false, false, false, false, false, false] rfl rfl (by kernel_rfl) (fun _ _ _ h => h) (Or.inl ⟨by rfl, ?_⟩) ?_ ?_
                rotate_left
                · intro w'
                  go_simp
                  with_reducible rfl
                rotate_left
                · simp only [Act.put, List.setIfInBounds_toArray, List.set_cons_zero, List.set_cons_succ, i64_w, i32_w]
                  rfl
                refine pure_ (i := 2) (N := some 121) (v := ?_) (a' := ?_) #[true, true, true, false, false, false, false, false] rfl rfl (by kernel_rfl) (fun _ _ _ h => h) (Or.inl ⟨by rfl, ?_⟩) ?_ ?_
                rotate_left
                · intro w'
                  go_simp
                  with_reducible rfl
                rotate_left
                · simp only [Act.put, List.setIfInBounds_toArray, List.set_cons_zero, List.set_cons_succ, i64_w, i32_w]
                  rfl
                refine pure_ (i := 3) (N := some 122) (v := ?_) (a' := ?_) #[true, true, true, true, false, false, false, false] rfl rfl (by kernel_rfl) (fun _ _ _ h => h) (Or.inl ⟨by rfl, ?_⟩) ?_ ?_
                rotate_left
                · intro w'
                  go_simp
                  with_reducible rfl
                rotate_left
                · simp only [Act.put, List.setIfInBounds_toArray, List.set_cons_zero, List.set_cons_succ, i64_w, i32_w]
                  rfl
                refine take_ (i := 4) (N := some 123) (v := ?_) (a' := ?_) #[true, true, true, true, true, false, false, false] rfl rfl (by kernel_rfl) (fun _ _ _ h => h) (Or.inl ⟨by rfl, ?_⟩) hHeld ?_ ?_
                rotate_left
                · intro w' s0
                  obtain ⟨q1, q2, q3, q4, q5⟩ := s0
                  go_simp
                  with_reducible rfl
                rotate_left
                · simp only [Act.put, List.setIfInBounds_toArray, List.set_cons_zero, List.set_cons_succ, i64_w, i32_w]
                  rfl
                refine take_ (i := 5) (N := some 124) (v := ?_) (a' := ?_) #[true, true, true, true, true, true, false, false] rfl rfl (by kernel_rfl) (fun _ _ _ h => h) (Or.inl ⟨by rfl, ?_⟩) hHeld ?_ ?_
                rotate_left
                · intro w' s0
                  obtain ⟨q1, q2, q3, q4, q5⟩ := s0
                  go_simp
                  with_reducible rfl
                rotate_left
                · simp only [Act.put, List.setIfInBounds_toArray, List.set_cons_zero, List.set_cons_succ, i64_w, i32_w]
                  rfl
                refine one_ (i := 6) (N := some 125) #[true, true, true, true, true, true, true, false] rfl rfl (by kernel_rfl) (by decide) (fun K hK => ?_)
                refine goes_ Tryz.func29 (by kernel_rfl) rfl #[.agg #[.int .i64 x.kind, .int .i64 x.ten, .int .i64 x.nm, .int .i64 x.bytes]] (by first | rfl | (simp [Act.eval]; done)) rfl rfl (by first | rfl | (simp [Act.eval]; done)) ?_
                refine Calls.mono (HNM.out _) ?_
                rintro e w15 ⟨rfl, hb15⟩
                refine ⟨_, rfl, ?_⟩
                refine hK.out _ _ ⟨cellOf hb15 hHeld.1, cellOf hb15 hHeld.2.1, cellOf hb15 hHeld.2.2.1, cellOf hb15 hHeld.2.2.2.1, cellOf hb15 hHeld.2.2.2.2⟩ (fun hHeld => ?_)
                clear hK K
                refine norm_ (a' := ?_) ?_ ?_
                rotate_left
                · show Act.put _ (some 125) _ = _
                  simp only [Act.put, List.setIfInBounds_toArray, List.set_cons_zero, List.set_cons_succ, i64_w, i32_w]
                  rfl
                refine pure_ (i := 7) (N := some 126) (v := ?_) (a' := ?_) #[true, true, true, true, true, true, true, true] rfl rfl (by kernel_rfl) (fun _ _ _ h => h) (Or.inl ⟨by rfl, ?_⟩) ?_ ?_
                rotate_left
                · intro w'
                  go_simp
                  with_reducible rfl
                rotate_left
                · simp only [Act.put, List.setIfInBounds_toArray, List.set_cons_zero, List.set_cons_succ, i64_w, i32_w]
                  rfl
                refine done_ (by kernel_rfl) ?_
                have hls := (show LsAt wr.drew.drew (some ⟨zb, 0, none⟩) l from HLW.out).below hb15
                have hbz5 := hbz.drew.drew.trans (hb15.mono hbz.size)
                have zv := cellOf hb15 (show wr.drew.drew.cell? ⟨zb, 0 * 3 + 1, none⟩ = some (.int .i64 xj.ver) from z1)
                have HNL := Lib.hid (And.intro hbz5 hls)
                clear hls hbz5 hb15 hHeld
                go_wp2_with fail
                all_goals
                  rename_i hq
                  rw [toList_beq] at hq
                  refine ⟨⟨0 + 1, by omega, by first | rfl | go_num, ?_, HNL.out.1, HNL.out.2⟩, by first | (simp [intOf]; omega) | simp [intOf]⟩
                  rw [HTK.out, hq]
                  rfl
              · obtain ⟨i, rfl⟩ : ∃ i, j = i + 1 := ⟨j - 1, by omega⟩
                obtain ⟨xi, hxi⟩ : ∃ xi, l[i]? = some xi := ⟨_, List.getElem?_eq_getElem (by omega)⟩
                obtain ⟨zb2, hzA2, u0, u1, u2⟩ := ls i xi hxi
                injection hzA2 with hzA2
                injection hzA2 with hzA2 hzo hzs
                subst hzA2
                clear hzo hzs
                have hless := less_next HND.out HP4.out HP5.out hxi hxj
                have hij : ((i + 1 : Nat) : Int) = (i : Int) + 1 := rfl
                have dg : decide ((i : Int) + 1 > 0) = true := decide_eq_true (by omega)
                have hil : (i : Int) < (l.length : Int) := by omega
                have hi0 : (0 : Int) ≤ (i : Int) := by omega
                rw [hij]
                rw [hij] at hjl hj0 dj
                clear hij u1 u2 hxi hxj hz
                have HLW := Lib.hid ls
                clear ls
                have HLS := Lib.hid hless
                clear hless
                go_upto_region 23 with (fail)
                have hwi : wrap64 (i : Int) = (i : Int) := by unfold wrap64; omega
                refine start_ (n := 16) (S := fun w' => w'.cell? ⟨zb, i * 3, none⟩ = some (.string xi.name) ∧ w'.cell? ⟨zb, (i + 1) * 3, none⟩ = some (.string xj.name)) (ds := []) #[false, false, false, false, false, false, false, false, false, false, false, false, false, false, false, false] (by kernel_rfl) rfl rfl ⟨u0, z0⟩ (fun hHeld => ?_)
                refine pure_ (i := 0) (N := some 103) (v := ?_) (a' := ?_) #[true, false, false, false, false, false, false, false, false, false, false, false, false, false, false, false] rfl rfl (by kernel_rfl) (fun _ _ _ h => h) (Or.inl ⟨by rfl, ?_⟩) ?_ ?_
                rotate_left
                · intro w'
                  go_simp
                  with_reducible rfl
                rotate_left
                · simp only [Act.put, List.setIfInBounds_toArray, List.set_cons_zero, List.set_cons_succ, i64_w, i32_w]
                  rfl
                refine pure_ (i := 1) (N := some 104) (v := ?_) (a' := ?_) #[true, true, false, false, false, false, false, false, false, false, false, false, false, false, false, false] rfl rfl (by kernel_rfl) (fun _ _ _ h => h) (Or.inl ⟨by rfl, ?_⟩) ?_ ?_
                rotate_left
                · intro w'
                  go_simp
                  with_reducible rfl
                rotate_left
                · simp only [Act.put, List.setIfInBounds_toArray, List.set_cons_zero, List.set_cons_succ, i64_w, i32_w]
                  rfl
                refine pure_ (i := 2) (N := some 105) (v := ?_) (a' := ?_) #[true, true, true, false, false, false, false, false, false, false, false, false, false, false, false, false] rfl rfl (by kernel_rfl) (fun _ _ _ h => h) (Or.inl ⟨by rfl, ?_⟩) ?_ ?_
                rotate_left
                · intro w'
                  go_simp
                  with_reducible rfl
                rotate_left
                · simp only [Act.put, List.setIfInBounds_toArray, List.set_cons_zero, List.set_cons_succ, i64_w, i32_w]
                  rfl
                refine pure_ (i := 3) (N := some 106) (v := ?_) (a' := ?_) #[true, true, true, true, false, false, false, false, false, false, false, false, false, false, false, false] rfl rfl (by kernel_rfl) (fun _ _ _ h => h) (Or.inl ⟨by rfl, ?_⟩) ?_ ?_
                rotate_left
                · intro w'
                  go_simp
                  with_reducible rfl
                rotate_left
                · simp only [Act.put, List.setIfInBounds_toArray, List.set_cons_zero, List.set_cons_succ, i64_w, i32_w]
                  rfl
                refine pure_ (i := 4) (N := some 107) (v := ?_) (a' := ?_) #[true, true, true, true, true, false, false, false, false, false, false, false, false, false, false, false] rfl rfl (by kernel_rfl) (fun _ _ _ h => h) (Or.inl ⟨by rfl, ?_⟩) ?_ ?_
                rotate_left
                · intro w'
                  go_simp
                  with_reducible rfl
                rotate_left
                · simp only [Act.put, List.setIfInBounds_toArray, List.set_cons_zero, List.set_cons_succ, i64_w, i32_w]
                  rfl
                refine pure_ (i := 5) (N := some 108) (v := ?_) (a' := ?_) #[true, true, true, true, true, true, false, false, false, false, false, false, false, false, false, false] rfl rfl (by kernel_rfl) (fun _ _ _ h => h) (Or.inl ⟨by rfl, ?_⟩) ?_ ?_
                rotate_left
                · intro w'
                  go_simp
                  with_reducible rfl
                rotate_left
                · simp only [Act.put, List.setIfInBounds_toArray, List.set_cons_zero, List.set_cons_succ, i64_w, i32_w]
                  rfl
                refine pure_ (i := 6) (N := some 109) (v := ?_) (a' := ?_) #[true, true, true, true, true, true, true, false, false, false, false, false, false, false, false, false] rfl rfl (by kernel_rfl) (fun _ _ _ h => h) (Or.inl ⟨by rfl, ?_⟩) ?_ ?_
                rotate_left
                · intro w'
                  go_simp
                  with_reducible rfl
                rotate_left
                · simp only [Act.put, List.setIfInBounds_toArray, List.set_cons_zero, List.set_cons_succ, i64_w, i32_w]
                  rfl
                refine pure_ (i := 7) (N := some 110) (v := ?_) (a' := ?_) #[true, true, true, true, true, true, true, true, false, false, false, false, false, false, false, false] rfl rfl (by kernel_rfl) (fun _ _ _ h => h) (Or.inl ⟨by rfl, ?_⟩) ?_ ?_
                rotate_left
                · intro w'
                  go_simp
                  with_reducible rfl
                rotate_left
                · simp only [Act.put, List.setIfInBounds_toArray, List.set_cons_zero, List.set_cons_succ, i64_w, i32_w]
                  rfl
                refine take_ (i := 8) (N := some 111) (v := ?_) (a' := ?_) #[true, true, true, true, true, true, true, true, true, false, false, false, false, false, false, false] rfl rfl (by kernel_rfl) (fun _ _ _ h => h) (Or.inl ⟨by rfl, ?_⟩) hHeld ?_ ?_
                rotate_left
                · intro w' s0
                  obtain ⟨q1, q2⟩ := s0
                  go_simp
                  with_reducible rfl
                rotate_left
                · simp only [Act.put, List.setIfInBounds_toArray, List.set_cons_zero, List.set_cons_succ, i64_w, i32_w]
                  rfl
                refine pure_ (i := 9) (N := some 112) (v := ?_) (a' := ?_) #[true, true, true, true, true, true, true, true, true, true, false, false, false, false, false, false] rfl rfl (by kernel_rfl) (fun _ _ _ h => h) (Or.inl ⟨by rfl, ?_⟩) ?_ ?_
                rotate_left
                · intro w'
                  go_simp
                  with_reducible rfl
                rotate_left
                · simp only [Act.put, List.setIfInBounds_toArray, List.set_cons_zero, List.set_cons_succ, i64_w, i32_w]
                  rfl
                refine pure_ (i := 10) (N := some 113) (v := ?_) (a' := ?_) #[true, true, true, true, true, true, true, true, true, true, true, false, false, false, false, false] rfl rfl (by kernel_rfl) (fun _ _ _ h => h) (Or.inl ⟨by rfl, ?_⟩) ?_ ?_
                rotate_left
                · intro w'
                  go_simp
                  with_reducible rfl
                rotate_left
                · simp only [Act.put, List.setIfInBounds_toArray, List.set_cons_zero, List.set_cons_succ, i64_w, i32_w]
                  rfl
                refine pure_ (i := 11) (N := some 114) (v := ?_) (a' := ?_) #[true, true, true, true, true, true, true, true, true, true, true, true, false, false, false, false] rfl rfl (by kernel_rfl) (fun _ _ _ h => h) (Or.inl ⟨by rfl, ?_⟩) ?_ ?_
                rotate_left
                · intro w'
                  go_simp
                  with_reducible rfl
                rotate_left
                · simp only [Act.put, List.setIfInBounds_toArray, List.set_cons_zero, List.set_cons_succ, i64_w, i32_w]
                  rfl
                refine pure_ (i := 12) (N := some 115) (v := ?_) (a' := ?_) #[true, true, true, true, true, true, true, true, true, true, true, true, true, false, false, false] rfl rfl (by kernel_rfl) (fun _ _ _ h => h) (Or.inl ⟨by rfl, ?_⟩) ?_ ?_
                rotate_left
                · intro w'
                  go_simp
                  with_reducible rfl
                rotate_left
                · simp only [Act.put, List.setIfInBounds_toArray, List.set_cons_zero, List.set_cons_succ, i64_w, i32_w]
                  rfl
                refine take_ (i := 13) (N := some 116) (v := ?_) (a' := ?_) #[true, true, true, true, true, true, true, true, true, true, true, true, true, true, false, false] rfl rfl (by kernel_rfl) (fun _ _ _ h => h) (Or.inl ⟨by rfl, ?_⟩) hHeld ?_ ?_
                rotate_left
                · intro w' s0
                  obtain ⟨q1, q2⟩ := s0
                  go_simp
                  with_reducible rfl
                rotate_left
                · simp only [Act.put, List.setIfInBounds_toArray, List.set_cons_zero, List.set_cons_succ, i64_w, i32_w]
                  rfl
                refine pure_ (i := 14) (N := some 117) (v := ?_) (a' := ?_) #[true, true, true, true, true, true, true, true, true, true, true, true, true, true, true, false] rfl rfl (by kernel_rfl) (fun _ _ _ h => h) (Or.inl ⟨by rfl, ?_⟩) ?_ ?_
                rotate_left
                · intro w'
                  go_simp
                  with_reducible rfl
                rotate_left
                · simp only [Act.put, List.setIfInBounds_toArray, List.set_cons_zero, List.set_cons_succ, i64_w, i32_w]
                  rfl
                refine pure_ (i := 15) (N := some 118) (v := ?_) (a' := ?_) #[true, true, true, true, true, true, true, true, true, true, true, true, true, true, true, true] rfl rfl (by kernel_rfl) (fun _ _ _ h => h) (Or.inl ⟨by rfl, ?_⟩) ?_ ?_
                rotate_left
                · intro w'
                  go_simp
                  with_reducible rfl
                rotate_left
                · simp only [Act.put, List.setIfInBounds_toArray, List.set_cons_zero, List.set_cons_succ, i64_w, i32_w]
                  rfl
                refine done_ (by kernel_rfl) ?_
                clear hwi
                have hless : (!Op.bytesLess xi.name.toList xj.name.toList) = false := by rw [HLS.out]; rfl
                go_upto_region 25 with (fail)
                · rename_i h1
                  exact absurd (hless.symm.trans h1) (by decide)
                refine start_ (n := 8) (S := fun w' => w'.cell? ⟨zb, (i + 1) * 3, none⟩ = some (.string xj.name) ∧ w'.cell? ⟨q, 0, none⟩ = some (.int .i64 x.kind) ∧ w'.cell? ⟨q, 1, none⟩ = some (.int .i64 x.ten) ∧ w'.cell? ⟨q, 2, none⟩ = some (.int .i64 x.nm) ∧ w'.cell? ⟨q, 3, none⟩ = some (.int .i64 x.bytes)) (ds := []) #[false, false, false, false, false, false, false, false] (by kernel_rfl) rfl rfl ⟨z0, y0, y1, y2, y3⟩ (fun hHeld => ?_)
                refine pure_ (i := 0) (N := some 119) (v := ?_) (a' := ?_) #[true, false, false, false, false, false, false, false] rfl rfl (by kernel_rfl) (fun _ _ _ h => h) (Or.inl ⟨by rfl, ?_⟩) ?_ ?_
                rotate_left
                · intro w'
                  go_simp
                  with_reducible rfl
                rotate_left
                · simp only [Act.put, List.setIfInBounds_toArray, List.set_cons_zero, List.set_cons_succ, i64_w, i32_w]
                  rfl
                refine pure_ (i := 1) (N := some 120) (v := ?_) (a' := ?_) #[true, true, false, false, false, false, false, false] rfl rfl (by kernel_rfl) (fun _ _ _ h => h) (Or.inl ⟨by rfl, ?_⟩) ?_ ?_
                rotate_left
                · intro w'
                  go_simp
                  with_reducible rfl
                rotate_left
                · simp only [Act.put, List.setIfInBounds_toArray, List.set_cons_zero, List.set_cons_succ, i64_w, i32_w]
                  rfl
                refine pure_ (i := 2) (N := some 121) (v := ?_) (a' := ?_) #[true, true, true, false, false, false, false, false] rfl rfl (by kernel_rfl) (fun _ _ _ h => h) (Or.inl ⟨by rfl, ?_⟩) ?_ ?_
                rotate_left
                · intro w'
                  go_simp
                  with_reducible rfl
                rotate_left
                · simp only [Act.put, List.setIfInBounds_toArray, List.set_cons_zero, List.set_cons_succ, i64_w, i32_w]
                  rfl
                refine pure_ (i := 3) (N := some 122) (v := ?_) (a' := ?_) #[true, true, true, true, false, false, false, false] rfl rfl (by kernel_rfl) (fun _ _ _ h => h) (Or.inl ⟨by rfl, ?_⟩) ?_ ?_
                rotate_left
                · intro w'
                  go_simp
                  with_reducible rfl
                rotate_left
                · simp only [Act.put, List.setIfInBounds_toArray, List.set_cons_zero, List.set_cons_succ, i64_w, i32_w]
                  rfl
                refine take_ (i := 4) (N := some 123) (v := ?_) (a' := ?_) #[true, true, true, true, true, false, false, false] rfl rfl (by kernel_rfl) (fun _ _ _ h => h) (Or.inl ⟨by rfl, ?_⟩) hHeld ?_ ?_
                rotate_left
                · intro w' s0
                  obtain ⟨q1, q2, q3, q4, q5⟩ := s0
                  go_simp
                  with_reducible rfl
                rotate_left
                · simp only [Act.put, List.setIfInBounds_toArray, List.set_cons_zero, List.set_cons_succ, i64_w, i32_w]
                  rfl
                refine take_ (i := 5) (N := some 124) (v := ?_) (a' := ?_) #[true, true, true, true, true, true, false, false] rfl rfl (by kernel_rfl) (fun _ _ _ h => h) (Or.inl ⟨by rfl, ?_⟩) hHeld ?_ ?_
                rotate_left
                · intro w' s0
                  obtain ⟨q1, q2, q3, q4, q5⟩ := s0
                  go_simp
                  with_reducible rfl
                rotate_left
                · simp only [Act.put, List.setIfInBounds_toArray, List.set_cons_zero, List.set_cons_succ, i64_w, i32_w]
                  rfl
                refine one_ (i := 6) (N := some 125) #[true, true, true, true, true, true, true, false] rfl rfl (by kernel_rfl) (by decide) (fun K hK => ?_)
                refine goes_ Tryz.func29 (by kernel_rfl) rfl #[.agg #[.int .i64 x.kind, .int .i64 x.ten, .int .i64 x.nm, .int .i64 x.bytes]] (by first | rfl | (simp [Act.eval]; done)) rfl rfl (by first | rfl | (simp [Act.eval]; done)) ?_
                refine Calls.mono (HNM.out _) ?_
                rintro e w15 ⟨rfl, hb15⟩
                refine ⟨_, rfl, ?_⟩
                refine hK.out _ _ ⟨cellOf hb15 hHeld.1, cellOf hb15 hHeld.2.1, cellOf hb15 hHeld.2.2.1, cellOf hb15 hHeld.2.2.2.1, cellOf hb15 hHeld.2.2.2.2⟩ (fun hHeld => ?_)
                clear hK K
                refine norm_ (a' := ?_) ?_ ?_
                rotate_left
                · show Act.put _ (some 125) _ = _
                  simp only [Act.put, List.setIfInBounds_toArray, List.set_cons_zero, List.set_cons_succ, i64_w, i32_w]
                  rfl
                refine pure_ (i := 7) (N := some 126) (v := ?_) (a' := ?_) #[true, true, true, true, true, true, true, true] rfl rfl (by kernel_rfl) (fun _ _ _ h => h) (Or.inl ⟨by rfl, ?_⟩) ?_ ?_
                rotate_left
                · intro w'
                  go_simp
                  with_reducible rfl
                rotate_left
                · simp only [Act.put, List.setIfInBounds_toArray, List.set_cons_zero, List.set_cons_succ, i64_w, i32_w]
                  rfl
                refine done_ (by kernel_rfl) ?_
                have hls := (show LsAt wr.drew.drew (some ⟨zb, 0, none⟩) l from HLW.out).below hb15
                have hbz5 := hbz.drew.drew.trans (hb15.mono hbz.size)
                have zv := cellOf hb15 (show wr.drew.drew.cell? ⟨zb, (i + 1) * 3 + 1, none⟩ = some (.int .i64 xj.ver) from z1)
                have HNL := Lib.hid (And.intro hbz5 hls)
                clear hls hbz5 hb15 hHeld
                go_wp2_with fail
                all_goals
                  rename_i hq
                  rw [toList_beq] at hq
                  refine ⟨⟨i + 1 + 1, by omega, by first | rfl | go_num, ?_, HNL.out.1, HNL.out.2⟩, by first | (simp [intOf]; omega) | simp [intOf]⟩
                  rw [HTK.out, hq]
                  rfl
            · have dj : decide ((j : Int) < (l.length : Int)) = false := by simp; omega
              obtain rfl : j = l.length := by omega
              have hfv : fndS (l.take l.length) x.name = verE (S2.1.ar x.t0).ents (nmS x.n0) := by rw [List.take_length]; exact fnd_ver HND.out HP4.out x.name
              rw [hfv]
              have hcv := HCV.out
              generalize verE (S2.1.ar x.t0).ents (nmS x.n0) = vv at *
              have HRD := Lib.hid hrd
              clear hfv hrd ls hbz
              go_wp2_with (go_at_call 28; (with_reducible refine (HAT.out _).mono ?_); rintro e w16 ⟨rfl, hb16⟩; have H16 := Lib.hid (HRD.out.below hb16); obtain ⟨p0, p1, p2⟩ := ow_cell H16.out.ow ai vv hcv; clear hb16)
              exact ⟨⟨k + 1, by omega, by omega, by go_num, HNX.out w16 _ H16.out⟩, by simp [intOf]; omega⟩
      · have dl2 : decide ((k : Int) < 80) = false := by simp; omega
        have HE := Lib.hid hb
        clear M G C O CT kp hb
        go_wp2_with fail
        go_ret
        exact ⟨rfl, HE.out⟩
    · have dl1 : decide ((k : Int) < (xs.length : Int)) = false := by simp; omega
      have HE := Lib.hid hb
      clear M G C O CT kp hb
      go_wp2_with fail
      go_ret
      exact ⟨rfl, HE.out⟩
end Go.Proofs.YtmofiicjaldmiaaGreatDoor.SwW
