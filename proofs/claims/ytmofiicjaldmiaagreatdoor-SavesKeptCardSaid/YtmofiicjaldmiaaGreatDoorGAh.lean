import Derived.SliceStrings
import Derived.FnData
import Derived.LaidLaws
import Derived.Test.YtmofiicjaldmiaaGreatDoorGAg
import Derived.Test.YtmofiicjaldmiaaGreatDoorRows
section
namespace Go.Proofs.YtmofiicjaldmiaaGreatDoor.SyD
open Go.RowKit Go.Shelf YtmofiicjaldmiaaGreatDoorW.PrintWords YtmofiicjaldmiaaGreatDoorW.PrintLast SvA SvB SvC SvD SvE SvF SvG SvH SvI SvJ SvK SvL SvM SvN SvO SvP SvQ SvR SvS SvT SvU SvV SvW SvX SvY SvZ SwA SwB SwC SwD SwE SwF SwG SwI SwJ SwK SwH SwL SwM SwN SwO SwP SwQ SwR SwS SwT SwX SwY SxA SyA SyB SyC SwV SxH
set_option linter.unusedVariables false
set_option linter.unusedSimpArgs false
open Go.Lib
theorem subB_get {xs : List Int} {o n : Nat} (q : Nat) : (subB xs o n)[q]? = if q < n then xs[o + q]? else none := by
 unfold subB
 rw [List.getElem?_take, List.getElem?_drop]
theorem subB_over {xs d : List Int} {o : Nat} (h : o + d.length ≤ xs.length) {n : Nat} (hn : d.length = n) : subB (over xs o d) o n = d := by
 apply List.ext_getElem?
 intro q
 rw [subB_get, over_get h]
 by_cases hq : q < n
 · rw [if_pos hq, if_neg (by omega), if_pos (by omega), Nat.add_sub_cancel_left]
 · rw [if_neg hq, List.getElem?_eq_none (by omega)]
theorem subB_apart {xs d : List Int} {o p n : Nat} (h : o + d.length ≤ xs.length) (ha : p + n ≤ o ∨ o + d.length ≤ p) : subB (over xs o d) p n = subB xs p n := by
 apply List.ext_getElem?
 intro q
 rw [subB_get, subB_get, over_get h]
 by_cases hq : q < n
 ·
  rw [if_pos hq, if_pos hq]
  split
  · rfl
  · rw [if_neg (by omega)]
 · rw [if_neg hq, if_neg hq]
theorem unle_le : ∀ (m : Nat) (v : Int), 0 ≤ v → v < 256 ^ m → unle (le m v) = v
 | 0, v, h0, h1 => by
  simp [le, unle] at h1 ⊢
  omega
 | m + 1, v, h0, h1 => by
  have hp : (0 : Int) < 256 ^ m := Int.pow_pos (by decide)
  have e1 : le (m + 1) v = v % 256 :: le m (v / 256) := by
   unfold le
   rw [List.range_succ_eq_map, List.map_cons, List.map_map]
   congr 1
   · simp
   ·
    apply List.map_congr_left
    intro i _
    show v / 256 ^ (i + 1) % 256 = v / 256 / 256 ^ i % 256
    rw [Int.pow_succ, Int.mul_comm, Int.ediv_ediv_of_nonneg (by decide)]
  rw [e1]
  show v % 256 + 256 * unle (le m (v / 256)) = v
  rw [unle_le m (v / 256) (by omega) (by rw [Int.pow_succ] at h1; omega)]
  omega
theorem str_nbytes (s : ByteArray) : strOfNums (nbytes s) = s := by
 unfold strOfNums nbytes
 rw [List.map_map]
 have : ((fun n : Int => UInt8.ofNat n.toNat) ∘ fun c : UInt8 => (c.toNat : Int)) = id := by
  funext c
  simp
 rw [this, List.map_id]
theorem hdOf_head {h : HD} (hh : h.ok) (f : Int) : hdOf (headS h f) h.ten = h := by
 obtain ⟨ten, name, ver, size, sum, first⟩ := h
 have hn := hh.n0
 have hl0 : ∀ x : Int, ((((zeros 512).set 0 f).set 1 83).set 2 ten).set 3 x = ((((zeros 512).set 0 f).set 1 83).set 2 ten).set 3 x := fun _ => rfl
 dsimp only at hn
 unfold headS
 dsimp only
 have l0 : (((((zeros 512).set 0 f).set 1 83).set 2 ten).set 3 (name.size : Int)).length = 512 := by simp [zeros_len]
 have r3 : (((((zeros 512).set 0 f).set 1 83).set 2 ten).set 3 (name.size : Int))[3]? = some (name.size : Int) := by
  rw [List.getElem?_set_self (by simp [zeros_len])]
 generalize ((((zeros 512).set 0 f).set 1 83).set 2 ten).set 3 (name.size : Int) = x0 at *
 have n1 := nbytes_len name
 have l1 : (over x0 4 (nbytes name)).length = 512 := by rw [over_len (by omega)]; exact l0
 have l2 : (over (over x0 4 (nbytes name)) 20 (le 4 ver)).length = 512 := by rw [over_len (by rw [l1, le_len]; omega)]; exact l1
 have l3 : (over (over (over x0 4 (nbytes name)) 20 (le 4 ver)) 24 (le 4 size)).length = 512 := by rw [over_len (by rw [l2, le_len]; omega)]; exact l2
 have l4 : (over (over (over (over x0 4 (nbytes name)) 20 (le 4 ver)) 24 (le 4 size)) 28 (le 4 sum)).length = 512 := by rw [over_len (by rw [l3, le_len]; omega)]; exact l3
 have e3 : rd (over (over (over (over (over x0 4 (nbytes name)) 20 (le 4 ver)) 24 (le 4 size)) 28 (le 4 sum)) 32 (le 2 first)) 3 = (name.size : Int) := by
  unfold rd
  rw [List.getD_eq_getElem?_getD, show (3 : Int).toNat = 3 from rfl]
  rw [over_get (by rw [l4, le_len]; omega), if_pos (by omega), over_get (by rw [l3, le_len]; omega), if_pos (by omega), over_get (by rw [l2, le_len]; omega), if_pos (by omega), over_get (by rw [l1, le_len]; omega), if_pos (by omega), over_get (by omega), if_pos (by omega), r3]
  rfl
 unfold hdOf
 rw [e3, Int.toNat_natCast]
 rw [subB_over (by rw [l4, le_len]; omega) (le_len 2 first)]
 rw [subB_apart (by rw [l4, le_len]; omega) (by rw [le_len]; omega), subB_apart (by rw [l3, le_len]; omega) (by rw [le_len]; omega), subB_apart (by rw [l2, le_len]; omega) (by rw [le_len]; omega), subB_apart (by rw [l1, le_len]; omega) (by rw [le_len]; omega), subB_over (by omega) n1]
 rw [subB_apart (by rw [l4, le_len]; omega) (by rw [le_len]; omega), subB_apart (by rw [l3, le_len]; omega) (by rw [le_len]; omega), subB_apart (by rw [l2, le_len]; omega) (by rw [le_len]; omega), subB_over (by rw [l1, le_len]; omega) (le_len 4 ver)]
 rw [subB_apart (by rw [l4, le_len]; omega) (by rw [le_len]; omega), subB_apart (by rw [l3, le_len]; omega) (by rw [le_len]; omega), subB_over (by rw [l2, le_len]; omega) (le_len 4 size)]
 rw [subB_apart (by rw [l4, le_len]; omega) (by rw [le_len]; omega), subB_over (by rw [l3, le_len]; omega) (le_len 4 sum)]
 rw [str_nbytes, unle_le 4 ver hh.v0.1 (by have := hh.v0.2; exact this), unle_le 4 size hh.z0.1 (by have := hh.z0.2; exact this), unle_le 4 sum hh.s0.1 (by have := hh.s0.2; exact this), unle_le 2 first hh.f0.1 (by have := hh.f0.2; exact this)]
theorem rd_0 {xs : List Int} {v : Int} (h : xs[0]? = some v) : rd xs 0 = v := by
 unfold rd
 rw [List.getD_eq_getElem?_getD, show (0 : Int).toNat = 0 from rfl, h]
 rfl
theorem rd3_head {h : HD} (hh : h.ok) (f : Int) : rd (headS h f) 3 = (h.name.size : Int) := by
 have e := hdOf_head hh f
 have hn := hh.n0
 obtain ⟨ten, name, ver, size, sum, first⟩ := h
 dsimp only at hn
 unfold headS
 dsimp only
 have l0 : (((((zeros 512).set 0 f).set 1 83).set 2 ten).set 3 (name.size : Int)).length = 512 := by simp [zeros_len]
 have r3 : (((((zeros 512).set 0 f).set 1 83).set 2 ten).set 3 (name.size : Int))[3]? = some (name.size : Int) := by
  rw [List.getElem?_set_self (by simp [zeros_len])]
 generalize ((((zeros 512).set 0 f).set 1 83).set 2 ten).set 3 (name.size : Int) = x0 at *
 have n1 := nbytes_len name
 have l1 : (over x0 4 (nbytes name)).length = 512 := by rw [over_len (by omega)]; exact l0
 have l2 : (over (over x0 4 (nbytes name)) 20 (le 4 ver)).length = 512 := by rw [over_len (by rw [l1, le_len]; omega)]; exact l1
 have l3 : (over (over (over x0 4 (nbytes name)) 20 (le 4 ver)) 24 (le 4 size)).length = 512 := by rw [over_len (by rw [l2, le_len]; omega)]; exact l2
 have l4 : (over (over (over (over x0 4 (nbytes name)) 20 (le 4 ver)) 24 (le 4 size)) 28 (le 4 sum)).length = 512 := by rw [over_len (by rw [l3, le_len]; omega)]; exact l3
 unfold rd
 rw [List.getD_eq_getElem?_getD, show (3 : Int).toNat = 3 from rfl]
 rw [over_get (by rw [l4, le_len]; omega), if_pos (by omega), over_get (by rw [l3, le_len]; omega), if_pos (by omega), over_get (by rw [l2, le_len]; omega), if_pos (by omega), over_get (by rw [l1, le_len]; omega), if_pos (by omega), over_get (by omega), if_pos (by omega), r3]
 rfl
theorem hdOk_head {h : HD} (hh : h.ok) (hn : nameOk h.name = true) (hv : 1 ≤ h.ver) (hz : h.size ≤ 131072) : hdOk (headS h 1) h.ten = true := by
 unfold hdOk
 rw [hdOf_head hh, rd3_head hh]
 have := hh.n0
 simp only [hn, Bool.true_and, Bool.and_eq_true, decide_eq_true_eq]
 exact ⟨by omega, ⟨by omega, hz⟩, trivial⟩
def atE (es : List EN) (n : Nat) : Option EN := es.find? (fun e => e.at_ == (n : Int))
def inOrd (es : List EN) (k : Nat) : List EN := (List.range k).filterMap (atE es)
theorem inOrd_succ (es : List EN) (k : Nat) : inOrd es (k + 1) = inOrd es k ++ (atE es k).toList := by
 unfold inOrd
 rw [List.range_succ, List.filterMap_append]
 cases h : atE es k <;> simp [h]
theorem atE_some {es : List EN} {n : Nat} {e : EN} (h : atE es n = some e) : e ∈ es ∧ e.at_ = (n : Int) := by
 unfold atE at h
 exact ⟨List.mem_of_find?_eq_some h, by have := List.find?_some h; simpa using this⟩
theorem atE_none {es : List EN} {n : Nat} (h : atE es n = none) : ∀ e ∈ es, e.at_ ≠ (n : Int) := by
 unfold atE at h
 intro e he q
 have := List.find?_eq_none.1 h e he
 simp [q] at this
theorem mem_inOrd {es : List EN} {k : Nat} {e : EN} (h : e ∈ inOrd es k) : e ∈ es ∧ 0 ≤ e.at_ ∧ e.at_ < (k : Int) := by
 unfold inOrd at h
 obtain ⟨n, hn, h⟩ := List.mem_filterMap.1 h
 obtain ⟨h1, h2⟩ := atE_some h
 rw [List.mem_range] at hn
 exact ⟨h1, by omega, by omega⟩
theorem inOrd_at (es : List EN) (k : Nat) : ((inOrd es k).map (·.at_)).Pairwise (· < ·) := by
 induction k with
 | zero => exact List.Pairwise.nil
 | succ k ih =>
  rw [inOrd_succ, List.map_append, List.pairwise_append]
  refine ⟨ih, ?_, fun x hx y hy => ?_⟩
  · cases atE es k <;> simp
  ·
   obtain ⟨e, he, rfl⟩ := List.mem_map.1 hx
   obtain ⟨e', he', rfl⟩ := List.mem_map.1 hy
   have h1 := mem_inOrd he
   have h2 := (atE_some (by simpa using he' : atE es k = some e')).2
   omega
theorem inOrd_all {es : List EN} {k : Nat} (hnd : (es.map (·.at_)).Nodup) (hr : ∀ e ∈ es, 0 ≤ e.at_ ∧ e.at_ < (k : Int)) {e : EN} (he : e ∈ es) : e ∈ inOrd es k := by
 obtain ⟨h0, h1⟩ := hr e he
 unfold inOrd
 refine List.mem_filterMap.2 ⟨e.at_.toNat, List.mem_range.2 (by omega), ?_⟩
 rcases h : atE es e.at_.toNat with _ | e'
 · exact absurd (by omega : e.at_ = ((e.at_.toNat : Nat) : Int)) (atE_none h e he)
 ·
  obtain ⟨h2, h3⟩ := atE_some h
  have : e' = e := by
   obtain ⟨i, hi⟩ := List.getElem?_of_mem h2
   obtain ⟨j, hj⟩ := List.getElem?_of_mem he
   have a1 : (es.map (·.at_))[i]? = some e'.at_ := by rw [List.getElem?_map, hi]; rfl
   have a2 : (es.map (·.at_))[j]? = some e.at_ := by rw [List.getElem?_map, hj]; rfl
   rw [show e'.at_ = e.at_ by omega] at a1
   have hij : i = j := (List.getElem?_inj (by have := (List.getElem?_eq_some_iff.1 a1).1; exact this) hnd).1 (a1.trans a2.symm)
   subst hij
   rw [hi] at hj
   exact Option.some.inj hj
  rw [this]
theorem nodup_of {α β : Type} {f : α → β} {l : List α} (h : (l.map f).Nodup) : l.Nodup := (List.pairwise_map.1 h).imp (fun hne e => hne (congrArg f e))
theorem inOrd_perm {es : List EN} {k : Nat} (hnd : (es.map (·.at_)).Nodup) (hr : ∀ e ∈ es, 0 ≤ e.at_ ∧ e.at_ < (k : Int)) : (inOrd es k).Perm es := by
 have n1 : (inOrd es k).Nodup := by
  have h := inOrd_at es k
  have h2 : ((inOrd es k).map (·.at_)).Nodup := h.imp (fun hab => by omega)
  exact nodup_of h2
 have n2 : es.Nodup := nodup_of hnd
 exact (List.perm_ext_iff_of_nodup n1 n2).2 (fun e => ⟨fun h => (mem_inOrd h).1, fun h => inOrd_all hnd hr h⟩)
theorem secs_sub {l : List EN} {e : EN} (he : e ∈ l) : e.secs.Sublist (secsOf l) := by
 induction l with
 | nil => cases he
 | cons x l ih =>
  show e.secs.Sublist (x.secs ++ secsOf l)
  rcases List.mem_cons.1 he with he | he
  · subst he; exact List.sublist_append_left _ _
  · exact (ih he).trans (List.sublist_append_right _ _)
theorem secsOf_snoc (l : List EN) (e : EN) : secsOf (l ++ [e]) = secsOf l ++ e.secs := by simp [secsOf]
theorem followS_ents (b : BS) (a : AR) (es : List EN) (h : HD) : followS b { a with ents := es } h = followS b a h := by
 have h1 : ∀ (f : Nat) (n : Int) (secs data : List Int), folF b { a with ents := es } h.size f n secs data = folF b a h.size f n secs data := by
  intro f
  induction f with
  | zero => intro n secs data; rfl
  | succ f ih =>
   intro n secs data
   unfold folF
   rw [show inA { a with ents := es } n = inA a n from rfl, show folBad b { a with ents := es } h.size secs data n = folBad b a h.size secs data n from rfl, show nxt b { a with ents := es } n = nxt b a n from rfl, show folNext b { a with ents := es } h.size data n = folNext b a h.size data n from rfl, ih]
 unfold followS
 rw [h1]
theorem scan_good {b : BS} {a : AR} {n i m : Nat} {D : ByteArray → List Int} (hg : GA n i m a) (hc : GC b a D) (hn : n ≤ 4096) (h8 : 8 ≤ n) (hi : i < 8) (ht : ∀ e ∈ a.ents, e.hd.ten = (i : Int) + 1) :
  ∀ k, k ≤ a.heads → scanTo b { a with ents := [] } k = some (inOrd a.ents k, secsOf (inOrd a.ents k)) := by
 intro k
 induction k with
 | zero => intro _; rfl
 | succ k ih =>
  intro hk
  show (scanTo b { a with ents := [] } k).bind _ = _
  rw [ih (by omega), inOrd_succ]
  show scanStep b { a with ents := [] } (inOrd a.ents k, secsOf (inOrd a.ents k)) k = _
  unfold scanStep
  dsimp only
  rcases h : atE a.ents k with _ | e
  ·
   have h0 := rd_0 (hc.fr k (by omega) (atE_none h))
   rw [if_pos h0]
   simp
  ·
   obtain ⟨he, hat⟩ := atE_some h
   have G := hc.ge e he
   obtain ⟨ok1, ok2, ok3, ok4, ok5, ok6⟩ := hg.ok e he
   have hrd : b.read (a.frm + k) = headS e.hd 1 := by
    have := G.hdr
    rwa [show a.frm + e.at_.toNat = a.frm + k by rw [hat, Int.toNat_natCast]] at this
   have hten : ((a.ten : Nat) : Int) = e.hd.ten := by rw [ht e he, hg.ten]; omega
   rw [hrd, hten, if_neg (by rw [rd_0 (headS_0 e.hd 1)]; decide), hdOf_head ok1, if_pos (hdOk_head ok1 ok4 ok2 ok5)]
   have hfo := follow_good G (List.Nodup.sublist (secs_sub he) hg.sd) (hg.sr e he) (by rw [hg.hds]; omega) (by rw [hg.sec]; omega)
   rw [followS_ents, hfo]
   have hnew : e ∉ inOrd a.ents k := fun q => by have := (mem_inOrd q).2.2; omega
   have htw : (inOrd a.ents k).any (twinB e.hd) = false := by
    rw [Bool.eq_false_iff]
    intro q
    obtain ⟨e', he', hb'⟩ := List.any_eq_true.1 q
    unfold twinB at hb'
    simp only [Bool.and_eq_true, decide_eq_true_eq] at hb'
    have hm := mem_inOrd he'
    have : e'.hd.name = e.hd.name := by
     have := hb'.1
     rwa [ba_beq] at this
    obtain ⟨p, hp⟩ := List.getElem?_of_mem hm.1
    obtain ⟨q2, hq2⟩ := List.getElem?_of_mem he
    have a1 : (a.ents.map (·.hd.name))[p]? = some e'.hd.name := by rw [List.getElem?_map, hp]; rfl
    have a2 : (a.ents.map (·.hd.name))[q2]? = some e.hd.name := by rw [List.getElem?_map, hq2]; rfl
    rw [this] at a1
    have hij : p = q2 := (List.getElem?_inj (by have := (List.getElem?_eq_some_iff.1 a1).1; exact this) hg.nd).1 (a1.trans a2.symm)
    subst hij
    rw [hp] at hq2
    have := Option.some.inj hq2
    subst this
    omega
   have hdj : e.secs.any (fun y => (secsOf (inOrd a.ents k)).contains y) = false := by
    rw [Bool.eq_false_iff]
    intro q
    obtain ⟨y, hy, hcy⟩ := List.any_eq_true.1 q
    rw [List.contains_iff_mem] at hcy
    obtain ⟨e', he', hy'⟩ := List.mem_flatMap.1 hcy
    have hm := (mem_inOrd he').1
    have hne : e' ≠ e := fun q => hnew (q ▸ he')
    have := hg.sd
    have hP : ∀ (l : List EN), (secsOf l).Nodup → e ∈ l → e' ∈ l → False := by
     intro l
     induction l with
     | nil => intro _ h _; cases h
     | cons x l ih2 =>
      intro hnd h1 h2
      have hnd' : (x.secs ++ secsOf l).Nodup := hnd
      rw [List.nodup_append] at hnd'
      rcases List.mem_cons.1 h1 with h3 | h3
      ·
       rcases List.mem_cons.1 h2 with h4 | h4
       · exact hne (h4.trans h3.symm)
       · exact hnd'.2.2 y (h3 ▸ hy) y (List.mem_flatMap.2 ⟨e', h4, hy'⟩) rfl
      ·
       rcases List.mem_cons.1 h2 with h4 | h4
       · exact hnd'.2.2 y (h4 ▸ hy') y (List.mem_flatMap.2 ⟨e, h3, hy⟩) rfl
       · exact ih2 hnd'.2.1 h3 h4
    exact hP a.ents hg.sd he hm
   rw [htw, hdj]
   simp only [Bool.not_false, Bool.and_true, if_true, Option.toList_some]
   rw [secsOf_snoc, ← hat]
theorem newGo_none (es : List EN) (frm : Nat) : ∀ (l : List EN) (b : BS) (rest : List EN) (sm : Bool), (∀ e ∈ l, es.any (olderB e) = false) → newGo es frm l b rest sm = (b, rest ++ l, sm, true)
 | [], b, rest, sm, _ => by simp [newGo]
 | e :: l, b, rest, sm, h => by
  unfold newGo
  rw [h e List.mem_cons_self, if_neg (by decide), newGo_none es frm l b (rest ++ [e]) sm (fun x hx => h x (List.mem_cons_of_mem _ hx))]
  simp
theorem older_none {es : List EN} (hnd : (es.map (·.hd.name)).Nodup) {e : EN} (he : e ∈ es) : es.any (olderB e) = false := by
 rw [Bool.eq_false_iff]
 intro q
 obtain ⟨e', he', hb'⟩ := List.any_eq_true.1 q
 unfold olderB at hb'
 simp only [Bool.and_eq_true, decide_eq_true_eq] at hb'
 have hn : e'.hd.name = e.hd.name := by
  have := hb'.1
  rwa [ba_beq] at this
 obtain ⟨p, hp⟩ := List.getElem?_of_mem he'
 obtain ⟨q2, hq2⟩ := List.getElem?_of_mem he
 have a1 : (es.map (·.hd.name))[p]? = some e'.hd.name := by rw [List.getElem?_map, hp]; rfl
 have a2 : (es.map (·.hd.name))[q2]? = some e.hd.name := by rw [List.getElem?_map, hq2]; rfl
 rw [hn] at a1
 have hij : p = q2 := (List.getElem?_inj (by have := (List.getElem?_eq_some_iff.1 a1).1; exact this) hnd).1 (a1.trans a2.symm)
 subst hij
 rw [hp] at hq2
 have := Option.some.inj hq2
 subst this
 have := hb'.2
 omega
end Go.Proofs.YtmofiicjaldmiaaGreatDoor.SyD
end
section
namespace Go.Proofs.YtmofiicjaldmiaaGreatDoor.SyE
open Go.RowKit Go.Shelf YtmofiicjaldmiaaGreatDoorW.PrintWords YtmofiicjaldmiaaGreatDoorW.PrintLast SvA SvB SvC SvD SvE SvF SvG SvH SvI SvJ SvK SvL SvM SvN SvO SvP SvQ SvR SvS SvT SvU SvV SvW SvX SvY SvZ SwA SwB SwC SwD SwE SwF SwG SwI SwJ SwK SwH SwL SwM SwN SwO SwP SwQ SwR SwS SwT SwX SwY SxA SyA SyB SyC SwV SxH SyD
set_option linter.unusedVariables false
set_option linter.unusedSimpArgs false
open Go.Lib
def arOf (b : BS) (i : Nat) (es : List EN) : AR := ⟨i + 1, i * (b.n / 8), b.n / 8, (b.n / 8 + 7) / 8, es⟩
def scanA (b : BS) (i : Nat) : Option (List EN × List Int) := scanTo b (arOf b i []) ((b.n / 8 + 7) / 8)
def scanU (b : BS) : Nat → Option (Nat → List EN)
 | 0 => some (fun _ => [])
 | k + 1 => (scanU b k).bind (fun f => (scanA b k).map (fun s => fun j => if j = k then s.1 else f j))
def SVof (b : BS) (f : Nat → List EN) : SV := ⟨b, fun i => arOf b i (f i), false⟩
def newU (S : SV) : Nat → SV × Bool × Bool
 | 0 => (S, false, true)
 | k + 1 => if (newU S k).2.2 then (if (newGo ((newU S k).1.ar k).ents ((newU S k).1.ar k).frm ((newU S k).1.ar k).ents (newU S k).1.b [] false).2.2.2 then
  (SV.setE (SV.setB (newU S k).1 (newGo ((newU S k).1.ar k).ents ((newU S k).1.ar k).frm ((newU S k).1.ar k).ents (newU S k).1.b [] false).1) k (newGo ((newU S k).1.ar k).ents ((newU S k).1.ar k).frm ((newU S k).1.ar k).ents (newU S k).1.b [] false).2.1, (newU S k).2.1 || (newGo ((newU S k).1.ar k).ents ((newU S k).1.ar k).frm ((newU S k).1.ar k).ents (newU S k).1.b [] false).2.2.1, true)
  else (SV.setB (newU S k).1 (newGo ((newU S k).1.ar k).ents ((newU S k).1.ar k).frm ((newU S k).1.ar k).ents (newU S k).1.b [] false).1, true, false)) else newU S k
inductive OpR where
 | broken
 | dead (b : BS)
 | fine (S : SV)
def openS (b : BS) : OpR := match scanU b 8 with
 | none => .broken
 | some f => if (newU (SVof b f) 8).2.2 then .fine (if (newU (SVof b f) 8).2.1 then SV.setB (newU (SVof b f) 8).1 (BS.sync (newU (SVof b f) 8).1.b) else (newU (SVof b f) 8).1) else .dead (newU (SVof b f) 8).1.b
theorem scanU_none {b : BS} {k : Nat} (h : scanU b k = none) : ∀ m, k ≤ m → scanU b m = none := by
 intro m hm
 induction m with
 | zero =>
    obtain rfl : k = 0 := by omega
    exact h
 | succ m ih =>
  by_cases e : k = m + 1
  · subst e; exact h
  ·
   unfold scanU
   rw [ih (by omega)]
   rfl
theorem newU_stuck {S : SV} {k : Nat} (h : (newU S k).2.2 = false) : ∀ m, k ≤ m → newU S m = newU S k := by
 intro m hm
 induction m with
 | zero =>
    obtain rfl : k = 0 := by omega
    rfl
 | succ m ih =>
  by_cases e : k = m + 1
  · subst e; rfl
  ·
   have := ih (by omega)
   show (if (newU S m).2.2 then _ else newU S m) = _
   rw [this, h, if_neg (by decide)]
theorem newU_ar (S : SV) : ∀ (k i : Nat), k ≤ i → (newU S k).1.ar i = S.ar i
 | 0, i, _ => rfl
 | k + 1, i, h => by
  have ih := newU_ar S k i (by omega)
  unfold newU
  split
  ·
   split
   ·
    dsimp only
    rw [setE_ar, if_neg (by omega)]
    exact ih
   · exact ih
  · exact ih
theorem folF_in (b : BS) (a : AR) (size : Int) : ∀ (f : Nat) (n : Int) (secs data s2 d2 : List Int) (m : Int), (∀ x ∈ secs, inA a x = true) → folF b a size f n secs data = some (s2, d2, m) → ∀ x ∈ s2, inA a x = true
 | 0, n, secs, data, s2, d2, m, _, h => by simp [folF] at h
 | f + 1, n, secs, data, s2, d2, m, hs, h => by
  unfold folF at h
  split at h
  ·
   rename_i hin
   split at h
   · cases h
   ·
    refine folF_in b a size f _ _ _ _ _ _ (fun x hx => ?_) h
    rcases List.mem_append.1 hx with hx | hx
    · exact hs x hx
    ·
     rw [List.mem_singleton] at hx
     subst hx
     exact hin
  ·
   simp only [Option.some.injEq, Prod.mk.injEq] at h
   rw [← h.1]
   exact hs
theorem followS_in (b : BS) (a : AR) (h : HD) : ∀ x ∈ (followS b a h).1, (a.heads : Int) ≤ x ∧ x < (a.sec : Int) := by
 intro x hx
 unfold followS at hx
 split at hx
 · cases hx
 ·
  rename_i s d n he
  have := folF_in b a h.size _ _ _ _ _ _ _ (fun x hx => by cases hx) he x hx
  have := (inA_iff a x).1 this
  exact ⟨this.1, this.2.1⟩
structure EG (b : BS) (a : AR) (k : Nat) (e : EN) : Prop where
 at0 : 0 ≤ e.at_ ∧ e.at_ < (k : Int)
 rd : hdOk (b.read (a.frm + e.at_.toNat)) a.ten = true
 hd : e.hd = hdOf (b.read (a.frm + e.at_.toNat)) a.ten
 fo : (followS b a e.hd).1 = e.secs ∧ (followS b a e.hd).2.2 = true
theorem scanTo_eg {b : BS} {a : AR} : ∀ {k : Nat} {s : List EN × List Int}, scanTo b a k = some s → ∀ e ∈ s.1, EG b a k e
 | 0, s, h => by
  simp only [scanTo, Option.some.injEq] at h
  subst h
  intro e he
  cases he
 | k + 1, s, h => by
  unfold scanTo at h
  obtain ⟨s0, h0, h1⟩ := Option.bind_eq_some_iff.1 h
  have ih := scanTo_eg h0
  have up : ∀ e, EG b a k e → EG b a (k + 1) e := fun e h => ⟨⟨h.at0.1, by have := h.at0.2; omega⟩, h.rd, h.hd, h.fo⟩
  unfold scanStep at h1
  dsimp only at h1
  split at h1
  ·
   simp only [Option.some.injEq] at h1
   subst h1
   exact fun e he => up e (ih e he)
  ·
   split at h1
   ·
    rename_i hok
    split at h1
    ·
     rename_i hc
     simp only [Bool.and_eq_true] at hc
     simp only [Option.some.injEq] at h1
     subst h1
     intro e he
     rcases List.mem_append.1 he with he | he
     · exact up e (ih e he)
     ·
      rw [List.mem_singleton] at he
      subst he
      exact ⟨⟨by dsimp only; omega, by dsimp only; omega⟩, by dsimp only; rw [Int.toNat_natCast]; exact hok, by dsimp only; rw [Int.toNat_natCast], rfl, hc.1.1⟩
    · cases h1
   · cases h1
theorem scanU_at {b : BS} : ∀ {k : Nat} {f : Nat → List EN}, scanU b k = some f → ∀ i, i < k → ∃ s, scanA b i = some s ∧ s.1 = f i
 | 0, f, h => fun i hi => absurd hi (Nat.not_lt_zero _)
 | k + 1, f, h => by
  unfold scanU at h
  obtain ⟨f0, h0, h1⟩ := Option.bind_eq_some_iff.1 h
  obtain ⟨s, hs, h2⟩ := Option.map_eq_some_iff.1 h1
  intro i hi
  subst h2
  by_cases e : i = k
  ·
   subst e
   exact ⟨s, hs, by simp⟩
  ·
   obtain ⟨s', a1, a2⟩ := scanU_at h0 i (by omega)
   exact ⟨s', a1, by rw [a2]; simp [e]⟩
theorem mul8 {k n : Nat} (hk : k < 8) : k * (n / 8) + n / 8 ≤ n := by
 have : k * (n / 8) ≤ 7 * (n / 8) := Nat.mul_le_mul (by omega) (Nat.le_refl _)
 omega
theorem scan_aok {b : BS} (hb : BOk b) (hn : b.n < 2 ^ 18) {i : Nat} (hi : i < 8) {s : List EN × List Int} (h : scanA b i = some s) : s.1.length ≤ b.n ∧ ∀ e ∈ s.1, e.hd.ok ∧ (0 ≤ e.at_ ∧ e.at_ < ((b.n / 8 : Nat) : Int)) ∧ (∀ n ∈ e.secs, 0 ≤ n ∧ n < ((b.n / 8 : Nat) : Int)) ∧ e.secs.length < 65536 := by
 have h1 := (scanTo_len h).1
 refine ⟨by omega, fun e he => ?_⟩
 have E := scanTo_eg h e he
 have hm := mul8 (n := b.n) hi
 have h0 := E.at0
 have hk : (arOf b i []).frm + e.at_.toNat < b.n := by
  show i * (b.n / 8) + e.at_.toNat < b.n
  omega
 obtain ⟨r1, r2⟩ := hb.read hk
 refine ⟨?_, by omega, fun n hn2 => ?_, ?_⟩
 ·
  rw [E.hd]
  exact hdOf_ok r1 r2 ⟨by show (0 : Int) ≤ ((i + 1 : Nat) : Int); omega, by show ((i + 1 : Nat) : Int) < 256; omega⟩ E.rd
 ·
  rw [← E.fo.1] at hn2
  have := followS_in b (arOf b i []) e.hd n hn2
  have h2 : (arOf b i []).sec = b.n / 8 := rfl
  rw [h2] at this
  exact ⟨by omega, this.2⟩
 ·
  rw [← E.fo.1]
  have := followS_len b (arOf b i []) e.hd
  have h2 : (arOf b i []).sec = b.n / 8 := rfl
  omega
end Go.Proofs.YtmofiicjaldmiaaGreatDoor.SyE
end
section
namespace Go.Proofs.YtmofiicjaldmiaaGreatDoor.SyF
open Go.RowKit Go.Shelf YtmofiicjaldmiaaGreatDoorW.PrintWords YtmofiicjaldmiaaGreatDoorW.PrintLast SvA SvB SvC SvD SvE SvF SvG SvH SvI SvJ SvK SvL SvM SvN SvO SvP SvQ SvR SvS SvT SvU SvV SvW SvX SvY SvZ SwA SwB SwC SwD SwE SwF SwG SwI SwJ SwK SwH SwL SwM SwN SwO SwP SwQ SwR SwS SwT SwX SwY SxA SyA SyB SyC SwV SxH SyD SyE
set_option linter.unusedVariables false
set_option linter.unusedSimpArgs false
open Go.Lib
structure OpSt2 (w : World) (own : Nat → Nat) (t g gs : Nat) (b : BS) (br : Value) (k : Nat) (wr : World) (o : Nat → Nat) (ga : Nat → Nat) (cs : Array Value) (f : Nat → List EN) : Prop where
 bk : Blk wr g cs 93
 sz : cs.size = 10
 c0 : cs[0]? = some (pt gs)
 c9 : cs[9]? = some (.bool false)
 ca : ∀ j, j < k → cs[1 + j]? = some (pt (ga j))
 ar : ∀ j, j < k → ArA wr o (t + 4 + j) (t + 12 + j) (ga j) (arOf b j (f j))
 st : StA wr o t gs b
 og : o g = t + 3
 gl : GL wr o br
 kp : Kp (k20 t) w own wr o
def pushW (wr : World) (g : Nat) (b : BS) (k : Nat) : World := (wr.alloc (.cells (arC b.n k) 102)).setCell ⟨g, 1 + k, none⟩ (pt wr.heap.size)
theorem OpSt2.push {w : World} {own : Nat → Nat} {t g gs : Nat} {b : BS} {br : Value} {k : Nat} {wr : World} {o : Nat → Nat} {ga : Nat → Nat} {cs : Array Value} {f : Nat → List EN} (H : OpSt2 w own t g gs b br k wr o ga cs f) (ht : 100 ≤ t) (hk8 : k < 8) (hn : b.n < 2 ^ 18) :
  ScSt (pushW wr g b k) (tagged wr o (t + 4 + k)) t g gs (cs.setIfInBounds (1 + k) (pt wr.heap.size)) wr.heap.size k b (arOf b k []) br [] [] (pushW wr g b k) (tagged wr o (t + 4 + k)) nilS nilS [] ∧
  ∀ (w' : World) (o' : Nat → Nat) (es : List EN), StA w' o' t gs b → ArA w' o' (t + 4 + k) (t + 12 + k) wr.heap.size (arOf b k es) → Kp (fun q => q = t + 4 + k ∨ q = t + 12 + k) (pushW wr g b k) (tagged wr o (t + 4 + k)) w' o' →
   OpSt2 w own t g gs b br (k + 1) w' o' (fun j => if j = k then wr.heap.size else ga j) (cs.setIfInBounds (1 + k) (pt wr.heap.size)) (fun j => if j = k then es else f j) := by
 have h1 : Kp (fun _ => False) wr o (wr.alloc (.cells (arC b.n k) 102)) (tagged wr o (t + 4 + k)) := Kp.below (ba _) _
 obtain ⟨b1, b2⟩ := H.bk.keep h1 (fun q => q)
 have og1 : tagged wr o (t + 4 + k) g = t + 3 := b2.trans H.og
 have h2 : Kp (fun q => q = t + 3) (wr.alloc (.cells (arC b.n k) 102)) (tagged wr o (t + 4 + k)) (pushW wr g b k) (tagged wr o (t + 4 + k)) := (Kp.refl _ _ _).set _ _ (fun q hq hn e => hn (by rw [e]; exact og1))
 have h3 : Kp (fun q => q = t + 3) wr o (pushW wr g b k) (tagged wr o (t + 4 + k)) := (h1.mono (fun _ h => h.elim)).trans h2
 have hsz := H.sz
 have hgl : g < wr.heap.size := H.bk.lt
 have hbg : Blk (pushW wr g b k) g (cs.setIfInBounds (1 + k) (pt wr.heap.size)) 93 := Blk.set b1 _
 have e2 : arC b.n k = #[.int .i64 (((arOf b k []).ten : Nat) : Int), .int .i64 (((arOf b k []).frm : Nat) : Int), .int .i64 (((arOf b k []).sec : Nat) : Int), .int .i64 (((arOf b k []).heads : Nat) : Int), nilS.enc] := by
  show arC b.n k = #[.int .i64 ((k + 1 : Nat) : Int), .int .i64 ((k * (b.n / 8) : Nat) : Int), .int .i64 ((b.n / 8 : Nat) : Int), .int .i64 (((b.n / 8 + 7) / 8 : Nat) : Int), .slice none 0 0]
  unfold arC
  rw [arC_frm (by omega) hk8]
  simp
 have hba : Blk (pushW wr g b k) wr.heap.size (arC b.n k) 102 := Blk.other (blkNew rfl) (by show wr.heap.size ≠ g; omega) _
 have hoa : tagged wr o (t + 4 + k) wr.heap.size = t + 4 + k := tagged_new (Nat.le_refl _)
 refine ⟨⟨hoa, by rw [← e2]; exact hba, Kd.R_nil _ _ _ _ _, ⟨rfl, fun p hp => by cases hp⟩, H.st.keep h3 (by omega) (by omega) (by omega) (by omega), og1, hbg, Kd.R_nil _ _ _ _ _, H.gl.keep h3 (by omega), Kp.refl _ _ _⟩, fun w' o' es hst har hk => ?_⟩
 obtain ⟨g1, g2⟩ := hbg.keep hk (by rw [og1]; omega)
 refine ⟨g1, by rw [Array.size_setIfInBounds]; exact hsz, by rw [Array.getElem?_setIfInBounds_ne (by omega)]; exact H.c0, by rw [Array.getElem?_setIfInBounds_ne (by omega)]; exact H.c9, fun j hj => ?_, fun j hj => ?_, hst, g2.trans og1, (H.gl.keep h3 (by omega)).keep hk (by omega), (H.kp.trans (h3.mono (fun q h => ⟨by omega, by omega⟩))).trans (hk.mono (fun q h => ⟨by omega, by omega⟩))⟩
 ·
  by_cases e : j = k
  ·
   subst e
   rw [Array.getElem?_setIfInBounds_self_of_lt (by omega), if_pos rfl]
  ·
   rw [Array.getElem?_setIfInBounds_ne (by omega), if_neg e]
   exact H.ca j (by omega)
 ·
  try dsimp only
  by_cases e : j = k
  ·
   subst e
   rw [if_pos rfl, if_pos rfl]
   exact har
  ·
   rw [if_neg e, if_neg e]
   exact ((H.ar j (by omega)).keep h3 (by omega) (by omega) (by omega)).keep hk (by omega) (by omega) (by omega)
theorem OpSt2.mem {w : World} {own : Nat → Nat} {t g gs : Nat} {b : BS} {br : Value} {wr : World} {o : Nat → Nat} {ga : Nat → Nat} {cs : Array Value} {f : Nat → List EN} (H : OpSt2 w own t g gs b br 8 wr o ga cs f) : SvMem wr o t g gs ga (SVof b f) := by
 have e : cs = svCells gs ga false := by
  apply Array.ext_getElem?
  intro i
  by_cases h0 : i = 0
  · subst h0; rw [H.c0]; rfl
  by_cases h9 : i = 9
  · subst h9; rw [H.c9]; rfl
  by_cases hi : i < 10
  ·
   have := H.ca (i - 1) (by omega)
   rw [show 1 + (i - 1) = i by omega] at this
   rw [this]
   rcases (show i = 1 ∨ i = 2 ∨ i = 3 ∨ i = 4 ∨ i = 5 ∨ i = 6 ∨ i = 7 ∨ i = 8 by omega) with rfl | rfl | rfl | rfl | rfl | rfl | rfl | rfl <;> rfl
  · rw [Array.getElem?_eq_none (by rw [H.sz]; omega), Array.getElem?_eq_none (by show 10 ≤ i; omega)]
 have hb := H.bk
 rw [e] at hb
 exact ⟨H.og, hb, H.st, fun i hi => H.ar i hi⟩
def OpenP (w : World) (own : Nat → Nat) (t g gs : Nat) (br : Value) (b : BS) (r : OpR) (e : Ending) (w' : World) : Prop :=
 match r with
 | .broken => e = .returned br ∧ ∃ own', StA w' own' t gs b ∧ Kp (k20 t) w own w' own'
 | .dead b' => e = .returned refusedV ∧ ∃ own', StA w' own' t gs b' ∧ Kp (k20 t) w own w' own' ∧ BOk b' ∧ b'.n = b.n
 | .fine S => e = .returned .nilIface ∧ ∃ own' ga, SvMem w' own' t g gs ga S ∧ Kp (k20 t) w own w' own'
structure NuSt (w : World) (own : Nat → Nat) (t g gs : Nat) (ga : Nat → Nat) (b : BS) (f : Nat → List EN) (k : Nat) (wr : World) (o : Nat → Nat) : Prop where
 mem : SvMem wr o t g gs ga (newU (SVof b f) k).1
 kp : Kp (k20 t) w own wr o
 ok : (newU (SVof b f) k).2.2 = true
 bok : BOk (newU (SVof b f) k).1.b
 bn : (newU (SVof b f) k).1.b.n = b.n
 pn : (newU (SVof b f) k).1.b.pend.length ≤ b.pend.length + k * b.n
theorem NuSt.aok {w : World} {own : Nat → Nat} {t g gs : Nat} {ga : Nat → Nat} {b : BS} {f : Nat → List EN} {k : Nat} {wr : World} {o : Nat → Nat} (H : NuSt w own t g gs ga b f k wr o) (hb : BOk b) (hn : b.n < 2 ^ 18) (hf : scanU b 8 = some f) (hk : k < 8) : AOk (newU (SVof b f) k).1 k ∧ ((newU (SVof b f) k).1.ar k).ents.length ≤ b.n := by
 obtain ⟨s, hs, hsf⟩ := scanU_at hf k hk
 obtain ⟨h1, h2⟩ := scan_aok hb hn hk hs
 have ha : (newU (SVof b f) k).1.ar k = arOf b k (f k) := newU_ar _ k k (Nat.le_refl _)
 have hm := mul8 (n := b.n) hk
 rw [hsf] at h1 h2
 refine ⟨⟨?_, ?_, ?_, ?_, ?_⟩, ?_⟩
 ·
  rw [ha, H.bn]
  exact hm
 ·
  rw [ha]
  show b.n / 8 < _
  omega
 ·
  rw [ha]
  show (b.n / 8 + 7) / 8 ≤ b.n / 8
  omega
 ·
  rw [ha]
  show (f k).length < _
  omega
 ·
  rw [ha]
  exact h2
 ·
  rw [ha]
  exact h1
theorem newU_succ (S : SV) (k : Nat) (h : (newU S k).2.2 = true) {r : BS × List EN × Bool × Bool} (hr : newGo ((newU S k).1.ar k).ents ((newU S k).1.ar k).frm ((newU S k).1.ar k).ents (newU S k).1.b [] false = r) : newU S (k + 1) = if r.2.2.2 then (SV.setE (SV.setB (newU S k).1 r.1) k r.2.1, (newU S k).2.1 || r.2.2.1, true) else (SV.setB (newU S k).1 r.1, true, false) := by
 subst hr
 show (if (newU S k).2.2 then _ else newU S k) = _
 rw [if_pos h]
set_option maxRecDepth 100000 in
set_option maxHeartbeats 4000000 in
theorem open_ok (w : World) (own : Nat → Nat) (t g gs : Nat) (b : BS) (br : Value) (hst : StA w own t gs b) (ht : 100 ≤ t) (og : own g = t + 3) (hb : Blk w g #[pt gs, .pointer none, .pointer none, .pointer none, .pointer none, .pointer none, .pointer none, .pointer none, .pointer none, .bool false] 93)
  (hS : BOk b) (hn : b.n < 2 ^ 18) (hp : b.pend.length < 2 ^ 30) (hgl : GL w own br) (hbr : ∃ ty v, br = .iface ty v) :
  Calls Tryz.prog 48 #[pt g] w (OpenP w own t g gs br b (openS b)) := by
 obtain ⟨zs, zp, ps, hg, hbs, hs, hpe, hd⟩ := hst
 have hzl : zs.n = b.safe.length := (ow_len hs).1.symm
 have hsc := sectors_ok w gs zs _ _ _ hbs (by rw [hzl]; exact hS.fit.hz)
 rw [show zs.n / 512 = b.n by rw [hzl]; rfl] at hsc
 have hst : StA w own t gs b := ⟨zs, zp, ps, hg, hbs, hs, hpe, hd⟩
 have c0 : w.cell? ⟨g, 0, none⟩ = some (pt gs) := Blk.cell (i := 0) hb rfl
 have HST := Lib.hid (show OpSt2 w own t g gs b br 0 w own (fun _ => 0) #[pt gs, .pointer none, .pointer none, .pointer none, .pointer none, .pointer none, .pointer none, .pointer none, .pointer none, .bool false] (fun _ => []) from ⟨hb, rfl, rfl, rfl, fun j hj => absurd hj (Nat.not_lt_zero _), fun j hj => absurd hj (Nat.not_lt_zero _), hst, og, hgl, Kp.refl _ _ _⟩)
 have HSC := Lib.hid hsc
 obtain ⟨bty, bv, rfl⟩ := hbr
 clear hg hbs hs hpe hd hzl hsc hst hb hgl og
 go_enter Tryz.func48, Tryz.ntmps48
 go_wp2_with (go_at_call 22; refine HSC.out.mono ?_; rintro e w' ⟨rfl, rfl⟩)
 go_loopw [18, 4, 5, 6] (fun v _ _ _ wr => ∃ k : Nat, k ≤ 8 ∧ v = .int .i64 (k : Int) ∧ ∃ o ga cs f, scanU b k = some f ∧ OpSt2 w own t g gs b (.iface bty bv) k wr o ga cs f) (fun v _ _ _ _ => 8 - (intOf v).toNat)
 case atStart => exact ⟨0, by omega, rfl, own, _, _, _, rfl, HST.out⟩
 case round =>
  clear HST
  obtain ⟨k, hk, rfl, o, ga, cs, f, hf, H⟩ := hrel
  by_cases hlt : k < 8
  ·
   have dl : decide ((k : Int) < 8) = true := by simp; omega
   have hkn : (k : Int) < 8 := by omega
   have hk0 : (0 : Int) ≤ (k : Int) := by omega
   have cg := Blk.cell (i := 0) H.bk H.c0
   have zg : wr.frozen? ⟨g, 1 + k, none⟩ = false := Blk.frozen H.bk
   obtain ⟨v, hv⟩ : ∃ v, cs[1 + k]? = some v := ⟨_, Array.getElem?_eq_getElem (by rw [H.sz]; omega)⟩
   have ck : wr.cell? ⟨g, 1 + k, none⟩ = some v := Blk.cell H.bk hv
   have ck2 : ∀ o : Obj, (wr.alloc o).cell? ⟨g, 1 + k, none⟩ = some v := fun o => cellOf (ba o) ck
   have zk2 : ∀ o : Obj, (wr.alloc o).frozen? ⟨g, 1 + k, none⟩ = false := fun o => Blk.frozen (H.bk.below (ba o))
   have HP := Lib.hid (H.push ht hlt hn)
   have hm := mul8 (n := b.n) hlt
   have hs := scan_ok _ _ t g gs _ (by rw [Array.getElem?_setIfInBounds_ne (by omega)]; exact H.c0) wr.heap.size k hlt b hS (arOf b k []) (by show k * (b.n / 8) + b.n / 8 ≤ b.n; exact hm) hn (by show (b.n / 8 + 7) / 8 ≤ b.n / 8; omega) (by show k + 1 < 256; omega) (.iface bty bv) ht nilS HP.out.1 rfl
   have HS := Lib.hid hs
   have hsk : scanU b (k + 1) = (scanA b k).map (fun s => fun j => if j = k then s.1 else f j) := by
    show (scanU b k).bind _ = _
    rw [hf]
    rfl
   have hsa : scanTo b (arOf b k []) (arOf b k []).heads = scanA b k := rfl
   rw [hsa] at HS
   rcases hr : scanA b k with _ | s
   ·
    rw [hr] at HS hsk
    have hno := scanU_none (show scanU b (k + 1) = none from hsk) 8 (by omega)
    have HNO := Lib.hid (show openS b = .broken by unfold openS; rw [hno])
    have HKP := Lib.hid (H.kp.trans ((Kp.below (ts := k20 t) (own := o) (ba (w := wr) (.cells (arC b.n k) 102)) (t + 4 + k)).trans ((Kp.refl (k20 t) _ _).set (w := wr.alloc (.cells (arC b.n k) 102)) (own := tagged wr o (t + 4 + k)) ⟨g, 1 + k, none⟩ (pt wr.heap.size) (fun q hq hn e => hn (by rw [e, show tagged wr o (t + 4 + k) g = o g from tagged_old H.bk.lt, H.og]; exact ⟨by omega, by omega⟩)))))
    clear H hv hs hsk hno hsa hr
    go_wp2_with (go_at_call 87; refine Calls.mono HS.out ?_; rintro e w' ⟨rfl, o', h1, h2⟩)
    go_ret
    rw [HNO.out]
    exact ⟨rfl, o', h1, HKP.out.trans (h2.mono (fun q h => ⟨by omega, by omega⟩))⟩
   ·
    rw [hr] at HS hsk
    have HSK := Lib.hid (show scanU b (k + 1) = some (fun j => if j = k then s.1 else f j) from hsk)
    clear H hv hs hsk hsa hr
    go_wp2_with (go_at_call 87; refine Calls.mono HS.out ?_; rintro e w' ⟨rfl, o', h1, h2, h3⟩)
    case roundEnd => exact ⟨⟨k + 1, by omega, by go_num, _, _, _, _, HSK.out, HP.out.2 w' o' s.1 h1 h2 h3⟩, by simp [intOf]; omega⟩
  ·
   have dl : decide ((k : Int) < 8) = false := by simp; omega
   have h8 : k = 8 := by omega
   rw [h8] at H hf
   clear h8
   have hM := OpSt2.mem H
   have q0 := hM.ca 0 (by omega)
   have q1 := hM.ca 1 (by omega)
   have q2 := hM.ca 2 (by omega)
   have q3 := hM.ca 3 (by omega)
   have q4 := hM.ca 4 (by omega)
   have q5 := hM.ca 5 (by omega)
   have q6 := hM.ca 6 (by omega)
   have q7 := hM.ca 7 (by omega)
   have HM := Lib.hid (show NuSt w own t g gs ga b f 0 wr o from ⟨hM, H.kp, rfl, hS, rfl, by show b.pend.length ≤ b.pend.length + 0 * b.n; omega⟩)
   have HF := Lib.hid hf
   clear H hM hf
   go_wp2_with fail
   have HI : ∀ (k : Nat), k < 8 → ∀ W : World, (Instr.index 91 (.agg #[pt (ga 0), pt (ga 1), pt (ga 2), pt (ga 3), pt (ga 4), pt (ga 5), pt (ga 6), pt (ga 7)]) (.int .i64 (k : Int))).run Tryz.prog W = .ok (pt (ga k)) W := by
    intro k hk W
    rcases (show k = 0 ∨ k = 1 ∨ k = 2 ∨ k = 3 ∨ k = 4 ∨ k = 5 ∨ k = 6 ∨ k = 7 by omega) with rfl | rfl | rfl | rfl | rfl | rfl | rfl | rfl <;> kernel_rfl
   have HI' := Lib.hid HI
   clear q0 q1 q2 q3 q4 q5 q6 q7 HI
   go_loopw [49, 9, 10, 11, 7] (fun v _ _ _ c wr2 => ∃ (j : Nat) (o2 : Nat → Nat) (cb : Bool), j ≤ 8 ∧ v = .int .i64 (j : Int) ∧ c = .bool cb ∧ (newU (SVof b f) j).2.1 = cb ∧ NuSt w own t g gs ga b f j wr2 o2) (fun v _ _ _ _ _ => 8 - (intOf v).toNat)
   case atStart => exact ⟨0, o, false, by omega, rfl, rfl, rfl, HM.out⟩
   case round =>
    clear HM
    obtain ⟨j, o2, cb, hj, rfl, rfl, hcb, hM⟩ := hrel
    by_cases hlt : j < 8
    ·
     have dl : decide ((j : Int) < 8) = true := by simp; omega
     have hjn : (j : Int) < 8 := by omega
     obtain ⟨hA, hel⟩ := hM.aok hS hn HF.out hlt
     have hjb : j * b.n ≤ 8 * 2 ^ 18 := Nat.mul_le_mul (by omega) (by omega)
     have HC := newest_ok wr o2 t g gs ga _ hM.mem ht j hlt hM.bok hA (by have := hM.pn; omega)
     obtain ⟨r, hr⟩ : ∃ r, newGo ((newU (SVof b f) j).1.ar j).ents ((newU (SVof b f) j).1.ar j).frm ((newU (SVof b f) j).1.ar j).ents (newU (SVof b f) j).1.b [] false = r := ⟨_, rfl⟩
     have hsu := newU_succ _ j hM.ok hr
     rw [hr] at HC
     obtain ⟨rb, rest, sm, okr⟩ := r
     dsimp only at hsu
     have HSU := Lib.hid hsu
     have HC := Lib.hid HC
     have HEL := Lib.hid hel
     have HMM := Lib.hid hM
     have hi := HI'.out j hlt
     clear hM hA hel hjb hr hsu
     unfold SyC.NewP at HC
     dsimp only at HC
     cases okr
     ·
      simp only [Bool.false_eq_true, if_false] at HC
      have hsu := HSU.out
      rw [if_neg (by decide)] at hsu
      have hst := newU_stuck (S := SVof b f) (k := j + 1) (by rw [hsu]) 8 (by omega)
      have HNO := Lib.hid (show openS b = .dead rb by
       unfold openS
       rw [HF.out]
       dsimp only
       rw [hst, hsu]
       rfl)
      clear hsu hst HSU hcb
      unfold refusedV at HC
      go_wp2_with (go_at_call 88; refine Calls.mono HC.out ?_; rintro e w' ⟨rfl, o3, h1, h2, h3, h4⟩; have HE := Lib.hid (And.intro h1 (And.intro h2 (And.intro h3 h4))); clear h1 h2 h3 h4)
      go_ret
      rw [HNO.out]
      exact ⟨rfl, o3, HE.out.1.st, HMM.out.kp.trans HE.out.2.1, HE.out.2.2.1, HE.out.2.2.2.trans HMM.out.bn⟩
     ·
      simp only [if_true] at HC
      have hsu := HSU.out
      rw [if_pos rfl] at hsu
      have HSU2 := Lib.hid hsu
      clear hsu HSU
      have HCB := Lib.hid hcb
      clear hcb
      have HNX := Lib.hid (fun (W : World) (o3 : Nat → Nat) (h1 : SvMem W o3 t g gs ga (SV.setE (SV.setB (newU (SVof b f) j).1 rb) j rest)) (h2 : Kp (k20 t) wr o2 W o3) (h3 : BOk rb) (h4 : rb.n = (newU (SVof b f) j).1.b.n) (h5 : rb.pend.length ≤ (newU (SVof b f) j).1.b.pend.length + ((newU (SVof b f) j).1.ar j).ents.length) => (show NuSt w own t g gs ga b f (j + 1) W o3 from by
       have hu := HSU2.out
       refine ⟨by rw [hu]; exact h1, HMM.out.kp.trans h2, by rw [hu], by rw [hu]; exact h3, by rw [hu]; exact h4.trans HMM.out.bn, ?_⟩
       rw [hu]
       show rb.pend.length ≤ _
       have := HMM.out.pn
       have := HEL.out
       rw [Nat.succ_mul]
       omega))
      have HC2 := Lib.hid (show (newU (SVof b f) (j + 1)).2.1 = (cb || sm) by rw [HSU2.out, ← HCB.out])
      cases cb
      ·
       go_wp2_with (go_at_call 88; refine Calls.mono HC.out ?_; rintro e w' ⟨rfl, o3, h1, h2, h3, h4, h5⟩; have HE := Lib.hid (HNX.out _ _ h1 h2 h3 h4 h5); clear h1 h2 h3 h4 h5)
       go_roundw
       case rel => exact ⟨j + 1, o3, _, by omega, by go_num, rfl, by rw [HC2.out]; simp, HE.out⟩
       case measure => simp [intOf]; omega
      ·
       go_wp2_with (go_at_call 88; refine Calls.mono HC.out ?_; rintro e w' ⟨rfl, o3, h1, h2, h3, h4, h5⟩; have HE := Lib.hid (HNX.out _ _ h1 h2 h3 h4 h5); clear h1 h2 h3 h4 h5)
       go_roundw
       case rel => exact ⟨j + 1, o3, _, by omega, by go_num, rfl, by rw [HC2.out]; simp, HE.out⟩
       case measure => simp [intOf]; omega
    ·
     have dl : decide ((j : Int) < 8) = false := by simp; omega
     obtain rfl : j = 8 := by omega
     have hop : openS b = .fine (if (newU (SVof b f) 8).2.1 then SV.setB (newU (SVof b f) 8).1 (BS.sync (newU (SVof b f) 8).1.b) else (newU (SVof b f) 8).1) := by
      unfold openS
      rw [HF.out]
      dsimp only
      rw [if_pos hM.ok]
     have hjb : 8 * b.n ≤ 8 * 2 ^ 18 := Nat.mul_le_mul (by omega) (by omega)
     have hpn := hM.pn
     have c0 := hM.mem.c0
     have HSY := Lib.hid (sync_ok wr o2 t gs (newU (SVof b f) 8).1.b hM.mem.st hM.bok.fit.hz hM.bok.fit.hp (by omega) hM.bok.ok)
     have HMM := Lib.hid hM
     rw [hcb] at hop
     have HOP := Lib.hid hop
     clear hM hop hjb hpn hcb
     cases cb
     ·
      go_wp2_with fail
      go_ret
      rw [HOP.out]
      exact ⟨rfl, o2, ga, by rw [if_neg (by decide)]; exact HMM.out.mem, HMM.out.kp⟩
     ·
      go_wp2_with (go_at_call 89; refine Calls.mono HSY.out ?_; rintro e w' ⟨rfl, o3, h1, h2⟩; have HE := Lib.hid (And.intro h1 h2); clear h1 h2)
      go_ret
      rw [HOP.out]
      exact ⟨rfl, o3, ga, by simp only [if_true]; exact SvMem.store HMM.out.mem (by omega) HE.out.1 HE.out.2, HMM.out.kp.trans (HE.out.2.mono (fun q h => ⟨by omega, by omega⟩))⟩
end Go.Proofs.YtmofiicjaldmiaaGreatDoor.SyF
end
section
namespace Go.Proofs.YtmofiicjaldmiaaGreatDoor.SxB
open Go.RowKit Go.Shelf YtmofiicjaldmiaaGreatDoorW.PrintWords YtmofiicjaldmiaaGreatDoorW.PrintLast SvA SvB SvC SvD SvE SvF SvG SvH SvI SvJ SvK SvL SvM SvN SvO SvP SvQ SvR SvS SvT SvU SvV SvW SvX SvY SvZ SwA SwB SwC SwD SwE SwF SwG SwI SwJ SwK SwH SwL SwM SwN SwO SwP SwQ SwR SwS SwT SwX SxA
set_option linter.unusedVariables false
set_option linter.unusedSimpArgs false
open Go.Lib
theorem app_strs {ops : Array Oper} {rest : List Oper} {o : Oper} {a : Act} {Q : Exit → Act → World → Prop} {w0 W : World} (base : Nat) (hgd : o.guard = none) (s x : Operand)
  (ho : o.op = .call { callee := .builtin .append, args := #[s, x], argTypes := #[38, 38] }) (v : Value) (xs ys : List ByteArray) (A : Option Addr) (m c : Nat) (ok : Nat → Prop) (hs : a.eval s = v) (hx : a.eval x = .slice A m c)
  (HO : strK.R 9 W base ok v xs) (HR : strK.C W A m ys) (hfresh : ∀ k, W.heap.size ≤ k → ok k) (HB : Below base w0 W) (hbase : base ≤ W.heap.size) (hl : (xs.length + m) * 16 ≤ 140737488355328)
  (h : ∀ v1 w1, strK.R 9 w1 base ok v1 (xs ++ ys) → Below base w0 w1 → W.grownBy w1 v.ownBlock → (v1.ownBlock = v.ownBlock ∨ ∃ b, v1.ownBlock = some b ∧ W.heap.size ≤ b) → wpList Tryz.prog ops Q rest (a.put o.dst v1) w1) :
  wpList Tryz.prog ops Q (o :: rest) a W :=
 Kd.R_append_rows strK (Rr := strK.K W) (w0 := w0) base hgd s x 38 9 (.string ⟨#[]⟩) 16 ho Tryz.underlying38 info9 rfl (by decide) (by decide) v xs ys A m c ok (fun _ => False) hs hx HO HR (fun _ _ h => h) (fun _ h => h.elim) hfresh HB hbase (by omega) h
def strA (a : AC) (most : Int) : ByteArray := if a.puts then ⟨#[61]⟩ ++ strOfNums (a.data most) else ⟨#[45]⟩
def aftS (xs : List ByteArray) (a : AC) (most : Int) : List ByteArray := xs.set (6 * a.t0 + a.n0) (strA a most)
def StrP (w : World) (xs : List ByteArray) (e : Ending) (w' : World) : Prop := ∃ (z : Sl) (o : Nat → Nat), e = .returned z.enc ∧ Ow strK 9 w' o 2 z xs ∧ (∀ k, k < w.heap.size → o k = 0) ∧ Below w.heap.size w w'
set_option maxRecDepth 100000 in
set_option maxHeartbeats 2000000 in
theorem after_ok (w : World) (A : Option Addr) (c : Nat) (xs : List ByteArray) (hx : strK.C w A xs.length xs) (hl : xs.length = 48) (a : AC) (ha : a.wf) (most : Int) (h1 : 1 ≤ most) (h2 : most ≤ 100000) :
  Calls Tryz.prog 38 #[a.enc, .slice A xs.length c, .int .i64 most] w (StrP w (aftS xs a most)) := by
 have HAT := Lib.hid (fun W => at_ok a ha W)
 have HPU := Lib.hid (fun W => puts_ok a W)
 have HD := Lib.hid (fun W => data_ok a ha most h1 (by omega) W)
 have hti := a.t0_lt.1
 have hni := a.n0_lt.1
 have hds : (strOfNums (a.data most)).size ≤ 131072 := by rw [str_size, AC.data_len]; have := (a.len_lt most (by omega)).1; omega
 have hai : 6 * a.t0 + a.n0 < 48 := by omega
 unfold aftS
 generalize hst : strA a most = st
 have HST := Lib.hid hst
 clear hst
 generalize 6 * a.t0 + a.n0 = ai at *
 generalize hdt : a.data most = dt at *
 have HDT := Lib.hid hdt
 clear hdt
 generalize a.len most = ln at *
 have HX := Lib.hid hx
 have HL := Lib.hid hl
 have hxl : (([] : List ByteArray).length + xs.length) * 16 ≤ 140737488355328 := by rw [hl]; decide
 clear hx hl hti hni
 obtain ⟨k, tn, nn, b⟩ := a
 dsimp only [AC.enc] at *
 have hBX : ∀ W, Below (w.alloc (.cells #[.int .i64 k, .int .i64 tn, .int .i64 nn, .int .i64 b] 33)).heap.size (w.alloc (.cells #[.int .i64 k, .int .i64 tn, .int .i64 nn, .int .i64 b] 33)) W → W.cell? ⟨w.heap.size, 0, none⟩ = some (.int .i64 k) ∧ W.cell? ⟨w.heap.size, 1, none⟩ = some (.int .i64 tn) ∧ W.cell? ⟨w.heap.size, 2, none⟩ = some (.int .i64 nn) ∧ W.cell? ⟨w.heap.size, 3, none⟩ = some (.int .i64 b) := fun W h => ⟨cellOf h (Blk.cell (i := 0) (blkNew rfl) rfl), cellOf h (Blk.cell (i := 1) (blkNew rfl) rfl), cellOf h (Blk.cell (i := 2) (blkNew rfl) rfl), cellOf h (Blk.cell (i := 3) (blkNew rfl) rfl)⟩
 have hB1 := ba (w := w) (.cells #[.int .i64 k, .int .i64 tn, .int .i64 nn, .int .i64 b] 33)
 have hX1 := Kd.C_below HX.out hB1
 go_enter Tryz.func38, Tryz.ntmps38
 go_upto_region 2 with (fail)
 generalize w.alloc (.cells #[.int .i64 k, .int .i64 tn, .int .i64 nn, .int .i64 b] 33) = v1 at *
 have HBX := Lib.hid hBX
 have HB1 := Lib.hid hB1
 have HX1 := Lib.hid hX1
 clear hBX hB1 hX1 HX
 go_upto_region 3 with (at_builtin; refine app_strs (w0 := v1) v1.heap.size rfl _ _ rfl _ [] xs A xs.length c (fun _ => True) rfl rfl (Kd.R_nil _ _ _ _ _) HX1.out (fun _ _ => trivial) (Below.refl _ _) (Nat.le_refl _) hxl ?_; intro u1 w2 h5 h6 _ _; obtain ⟨A2, c2, rfl, _, _⟩ := Kd.R_reads h5; have hO := ow_new (own := fun _ => 0) (s := ⟨A2, xs.length, c2⟩) 2 h5; obtain ⟨gb, hgb⟩ := ow_head hO (by have := HL.out; show 0 < xs.length; omega); injection hgb with hA2 _ _; subst hA2; rw [List.nil_append] at hO; have HO := Lib.hid hO; have HB2 := Lib.hid h6; clear h5 h6 hO)
 have HK2 := Lib.hid (Kp.below (ts := fun q => q = 2) (own := fun _ => 0) HB2.out 2)
 have HBX2 := Lib.hid (HBX.out _ HB2.out)
 obtain ⟨e0, e1, e2, e3⟩ := HBX2.out
 have hai2 : (ai : Int) < (xs.length : Int) := by have := HL.out; omega
 have hai0 : (0 : Int) ≤ (ai : Int) := by omega
 obtain ⟨x0, hx0⟩ : ∃ x, xs[ai]? = some x := ⟨_, List.getElem?_eq_getElem (by omega)⟩
 have HX0 := Lib.hid hx0
 clear hx0
 generalize tagged v1 (fun _ => 0) 2 = o2 at *
 go_upto_region 4 with (go_at_call 28; refine (HAT.out _).mono ?_; rintro e w3 ⟨rfl, hz⟩; have hO3 := HO.out.keep (Kp.below (ts := fun _ => False) hz 0) (fun q => q); obtain ⟨q1, q2, _⟩ := ow_cell (enc := Value.string) (h1 := fun _ => rfl) hO3 ai x0 HX0.out; have HO3 := Lib.hid hO3; have HK3 := Lib.hid (HK2.out.trans (Kp.below hz 0)); clear hO3 hz e0 e1 e2 e3)
 have hP := HO3.out.put ai ⟨#[45]⟩
 have hO4 := hP.1
 have hK4 := HK3.out.trans hP.2
 clear hP HO3 HK3
 generalize w3.setCell ⟨gb, ai, none⟩ (.string ⟨#[45]⟩) = w4 at *
 generalize tagged w2 o2 0 = o4 at *
 have HO4 := Lib.hid hO4
 have HK4 := Lib.hid hK4
 have hb4 := kp_below hK4 (by decide)
 obtain ⟨e0, e1, e2, e3⟩ := HBX.out _ hb4
 clear hO4 hK4
 cases hp : (AC.mk k tn nn b).puts
 ·
  rw [hp] at HPU
  go_wp2_with (go_at_call 27; refine (HPU.out _).mono ?_; rintro e w5 ⟨rfl, hb5⟩; have HB5 := Lib.hid hb5; clear hb5 e0 e1 e2 e3)
  go_ret
  have hk5 := HK4.out.trans (Kp.below (ts := fun q => q = 2) HB5.out 0)
  refine ⟨⟨some ⟨gb, 0, none⟩, xs.length, c2⟩, _, rfl, ?_, fun q hq => (hk5.block q (Nat.lt_of_lt_of_le hq HB1.out.size) (by decide)).1, HB1.out.trans ((kp_below hk5 (by decide)).mono HB1.out.size)⟩
  have hst : st = ⟨#[45]⟩ := by rw [← HST.out]; unfold strA; rw [hp]; rfl
  rw [hst]
  exact HO4.out.keep (Kp.below (ts := fun _ => False) HB5.out 0) (fun q => q)
 ·
  rw [hp] at HPU
  go_upto_region 5 with (go_at_call 27; refine (HPU.out _).mono ?_; rintro e w5 ⟨rfl, hb5⟩)
  have hK5 := HK4.out.trans (Kp.below (ts := fun q => q = 2) hb5 0)
  have hO5 := HO4.out.keep (Kp.below (ts := fun _ => False) hb5 0) (fun q => q)
  have hS0 : (fun w' => w'.cell? ⟨w.heap.size, 0, none⟩ = some (.int .i64 k) ∧ w'.cell? ⟨w.heap.size, 1, none⟩ = some (.int .i64 tn) ∧ w'.cell? ⟨w.heap.size, 2, none⟩ = some (.int .i64 nn) ∧ w'.cell? ⟨w.heap.size, 3, none⟩ = some (.int .i64 b)) w5 := HBX.out _ (kp_below hK5 (by decide))
  clear hb5 e0 e1 e2 e3 HO4 HK4 HPU
  generalize tagged w4 o4 0 = o5 at *
  have HO5 := Lib.hid hO5
  have HK5 := Lib.hid hK5
  clear hO5 hK5
  refine start_ (n := 10) (S := fun w' => w'.cell? ⟨w.heap.size, 0, none⟩ = some (.int .i64 k) ∧ w'.cell? ⟨w.heap.size, 1, none⟩ = some (.int .i64 tn) ∧ w'.cell? ⟨w.heap.size, 2, none⟩ = some (.int .i64 nn) ∧ w'.cell? ⟨w.heap.size, 3, none⟩ = some (.int .i64 b)) (ds := [9]) #[false, false, false, false, false, false, false, false, false, false] (by kernel_rfl) rfl rfl hS0 (fun hHeld => ?_)
  refine pu_ (i := 0) (N := some 17) (v := ?_) (a' := ?_) rfl rfl (by kernel_rfl) (fun _ _ _ h => h) (by rfl) ?_ ?_ ?_
  rotate_left
  · (intro w'; go_simp; with_reducible rfl)
  rotate_left
  · (simp only [put_s, List.set, i64_w, i32_w]; rfl)
  refine tk_ (i := 1) (N := some 18) (v := ?_) (a' := ?_) rfl rfl (by kernel_rfl) (fun _ _ _ h => h) (by rfl) ?_ hHeld ?_ ?_
  rotate_left
  ·
   intro w' s0
   obtain ⟨q1, q2, q3, q4⟩ := s0
   go_simp
   with_reducible rfl
  rotate_left
  · (simp only [put_s, List.set, i64_w, i32_w]; rfl)
  refine tk_ (i := 3) (N := some 20) (v := ?_) (a' := ?_) rfl rfl (by kernel_rfl) (fun _ _ _ h => h) (by rfl) ?_ hHeld ?_ ?_
  rotate_left
  ·
   intro w' s0
   obtain ⟨q1, q2, q3, q4⟩ := s0
   go_simp
   with_reducible rfl
  rotate_left
  · (simp only [put_s, List.set, i64_w, i32_w]; rfl)
  refine pu_ (i := 4) (N := some 21) (v := ?_) (a' := ?_) rfl rfl (by kernel_rfl) (fun _ _ _ h => h) (by rfl) ?_ ?_ ?_
  rotate_left
  · (intro w'; go_simp; with_reducible rfl)
  rotate_left
  · (simp only [put_s, List.set, i64_w, i32_w]; rfl)
  refine on_ (i := 2) (N := some 19) rfl rfl (by kernel_rfl) (by decide) (fun K hK => ?_)
  refine goes_ Tryz.func28 (by kernel_rfl) rfl #[.agg #[.int .i64 k, .int .i64 tn, .int .i64 nn, .int .i64 b]] (by first | rfl | (simp [Act.eval]; done)) rfl rfl (by first | rfl | (simp [Act.eval]; done)) ?_
  refine Calls.mono (HAT.out _) ?_
  rintro e w6 ⟨rfl, hb6⟩
  refine ⟨_, rfl, ?_⟩
  refine hK.out _ _ ⟨cellOf hb6 hHeld.1, cellOf hb6 hHeld.2.1, cellOf hb6 hHeld.2.2.1, cellOf hb6 hHeld.2.2.2⟩ (fun hHeld => ?_)
  clear hK K
  refine norm_ (a' := ?_) ?_ ?_
  rotate_left
  ·
   show Act.put _ (some 19) _ = _
   simp only [put_s, List.set, i64_w, i32_w]
   rfl
  refine on_ (i := 5) (N := some 22) rfl rfl (by kernel_rfl) (by decide) (fun K hK => ?_)
  refine goes_ Tryz.func24 (by kernel_rfl) rfl #[.agg #[.int .i64 k, .int .i64 tn, .int .i64 nn, .int .i64 b], .int .i64 most] (by first | rfl | (simp [Act.eval]; done)) rfl rfl (by first | rfl | (simp [Act.eval]; done)) ?_
  refine Calls.mono (HD.out _) ?_
  rintro e w7 ⟨Z, rfl, f1, f2, hb7⟩
  refine ⟨_, rfl, ?_⟩
  refine hK.out _ _ ⟨cellOf hb7 hHeld.1, cellOf hb7 hHeld.2.1, cellOf hb7 hHeld.2.2.1, cellOf hb7 hHeld.2.2.2⟩ (fun hHeld => ?_)
  clear hK K
  refine norm_ (a' := ?_) ?_ ?_
  rotate_left
  ·
   show Act.put _ (some 22) _ = _
   simp only [put_s, List.set, i64_w, i32_w]
   rfl
  refine on_ (i := 6) (N := some 23) rfl rfl (by kernel_rfl) (by decide) (fun K hK => ?_)
  have hcv := conv_str (w := w7) (c := ln) f1
  refine value_ (v := .string (strOfNums dt)) (w1 := w7) (by rfl) rfl (by go_simp) ?_
  refine hK.out _ _ hHeld (fun hHeld => ?_)
  clear hK K
  refine norm_ (a' := ?_) ?_ ?_
  rotate_left
  ·
   show Act.put _ (some 23) _ = _
   simp only [put_s, List.set, i64_w, i32_w]
   rfl
  refine on_ (i := 7) (N := some 24) rfl rfl (by kernel_rfl) (by decide) (fun K hK => ?_)
  refine value_ (v := .string ((⟨#[61]⟩ : ByteArray) ++ strOfNums dt)) (w1 := w7) (by rfl) rfl (by go_simp; omega) ?_
  refine hK.out _ _ hHeld (fun hHeld => ?_)
  clear hK K
  refine norm_ (a' := ?_) ?_ ?_
  rotate_left
  ·
   show Act.put _ (some 24) _ = _
   simp only [put_s, List.set, i64_w, i32_w]
   rfl
  refine pu_ (i := 8) (N := some 25) (v := ?_) (a' := ?_) rfl rfl (by kernel_rfl) (fun _ _ _ h => h) (by rfl) ?_ ?_ ?_
  rotate_left
  · (intro w'; go_simp; with_reducible rfl)
  rotate_left
  · (simp only [put_s, List.set, i64_w, i32_w]; rfl)
  refine la_ (i := 9) (N := none) rfl rfl (by kernel_rfl) (by decide) (fun K hK => ?_)
  have hb57 : Below w5.heap.size w5 w7 := ((Below.refl _ _).drew.trans hb6).trans (hb7.mono hb6.size)
  have hO7 := HO5.out.keep (Kp.below (ts := fun _ => False) hb57 0) (fun q => q)
  obtain ⟨u1, u2, _⟩ := ow_cell (enc := Value.string) (h1 := fun _ => rfl) hO7 ai ⟨#[45]⟩ (List.getElem?_set_self (by omega))
  refine skip_ (w1 := w7.setCell ⟨gb, ai, none⟩ (.string ((⟨#[61]⟩ : ByteArray) ++ strOfNums dt))) (by rfl) rfl (by go_simp) ?_
  refine hK.out _ _ ?_
  clear hK K
  have hP7 := hO7.put ai ((⟨#[61]⟩ : ByteArray) ++ strOfNums dt)
  have hK7 := (HK5.out.trans (Kp.below (ts := fun q => q = 2) hb57 0)).trans hP7.2
  have hO8 := hP7.1
  rw [List.set_set] at hO8
  clear hP7 hO7 u1 u2 hb57
  generalize w7.setCell ⟨gb, ai, none⟩ (.string ((⟨#[61]⟩ : ByteArray) ++ strOfNums dt)) = w8 at *
  have HO8 := Lib.hid hO8
  have HK8 := Lib.hid hK7
  clear hO8 hK7 hb6 hb7 f1 f2 hcv
  refine done_ (by kernel_rfl) ?_
  go_wp2_with fail
  go_ret
  refine ⟨⟨some ⟨gb, 0, none⟩, xs.length, c2⟩, _, rfl, ?_, fun q hq => (HK8.out.block q (Nat.lt_of_lt_of_le hq HB1.out.size) (by decide)).1, HB1.out.trans ((kp_below HK8.out (by decide)).mono HB1.out.size)⟩
  have hst : st = (⟨#[61]⟩ : ByteArray) ++ strOfNums dt := by rw [← HST.out]; unfold strA; rw [hp, if_pos rfl, HDT.out]
  rw [hst]
  exact HO8.out
end Go.Proofs.YtmofiicjaldmiaaGreatDoor.SxB
end
section
namespace Go.Proofs.YtmofiicjaldmiaaGreatDoor.SxC
open Go.RowKit Go.Shelf YtmofiicjaldmiaaGreatDoorW.PrintWords YtmofiicjaldmiaaGreatDoorW.PrintLast SvA SvB SvC SvD SvE SvF SvG SvH SvI SvJ SvK SvL SvM SvN SvO SvP SvQ SvR SvS SvT SvU SvV SvW SvX SvY SvZ SwA SwB SwC SwD SwE SwF SwG SwI SwJ SwK SwH SwL SwM SwN SwO SwP SwQ SwR SwS SwT SwX SxA SxB SwY SwV
set_option linter.unusedVariables false
set_option linter.unusedSimpArgs false
open Go.Lib
theorem hasS_put {S : SV} {i : Nat} {name : ByteArray} {data : List Int} (hr : roomS (S.ar i) data.length = true) (j : Nat) (x : ByteArray) : hasS (putR S i name data).1 j x = if j = i ∧ x = name then true else hasS S j x := by
 by_cases hj : j = i
 ·
  subst hj
  by_cases hx : x = name
  ·
   subst hx
   rw [if_pos ⟨rfl, rfl⟩, hasS_iff, (putR_at _ _ _ _).1]
   unfold putA
   rw [if_pos hr]
   exact ⟨_, List.mem_append_right _ (List.mem_singleton.2 rfl), rfl⟩
  ·
   rw [if_neg (fun q => hx q.2), Bool.eq_iff_iff, hasS_iff, hasS_iff, (putR_at _ _ _ _).1]
   unfold putA
   rw [if_pos hr]
   dsimp only
   constructor
   ·
    rintro ⟨e, he, hn⟩
    rcases List.mem_append.1 he with he | he
    ·
     rcases ho : oldS (S.ar j) name with _ | ⟨k, y⟩
     ·
      rw [ho] at he
      exact ⟨e, he, hn⟩
     ·
      rw [ho] at he
      exact ⟨e, List.mem_of_mem_eraseIdx he, hn⟩
    ·
     rw [List.mem_singleton] at he
     subst he
     exact absurd hn.symm hx
   ·
    rintro ⟨e, he, hn⟩
    refine ⟨e, List.mem_append_left _ ?_, hn⟩
    rcases ho : oldS (S.ar j) name with _ | ⟨k, y⟩
    · exact he
    ·
     obtain ⟨o1, o2⟩ := oldS_name ho
     rcases mem_erase o2 he with h | h
     · exact h
     ·
      subst h
      exact absurd (hn.symm.trans o1) hx
 ·
  rw [if_neg (fun q => hj q.1)]
  unfold hasS
  rw [putR_ar _ _ _ _ _ hj]
theorem hasS_del {S : SV} {n m i : Nat} (hg : GS S n m) (hi : i < 8) {name : ByteArray} (h0 : (delR S i name).2 = 0) (j : Nat) (x : ByteArray) : hasS (delR S i name).1 j x = if j = i ∧ x = name then false else hasS S j x := by
 have H := hg.ar i hi
 by_cases hj : j = i
 ·
  subst hj
  rw [(delR_at _ _ _).2] at h0
  rcases ho : oldS (S.ar j) name with _ | ⟨k, y⟩
  ·
   rw [ho] at h0
   exact absurd h0 (by decide)
  ·
   obtain ⟨o1, o2⟩ := oldS_name ho
   have hD : (delR S j name).1.ar j = { (S.ar j) with ents := (S.ar j).ents.eraseIdx k } := by rw [(delR_at _ _ _).1]; unfold delA; rw [ho]
   by_cases hx : x = name
   ·
    rw [if_pos ⟨rfl, hx⟩, Bool.eq_false_iff]
    intro q
    obtain ⟨e, he, hn⟩ := hasS_iff.1 q
    rw [hD] at he
    have := erase_name (f := fun e : EN => e.hd.name) H.nd o2 e he
    exact this (by rw [hn, hx, o1])
   ·
    rw [if_neg (fun q => hx q.2), Bool.eq_iff_iff, hasS_iff, hasS_iff, hD]
    dsimp only
    constructor
    ·
     rintro ⟨e, he, hn⟩
     exact ⟨e, List.mem_of_mem_eraseIdx he, hn⟩
    ·
     rintro ⟨e, he, hn⟩
     refine ⟨e, ?_, hn⟩
     rcases mem_erase o2 he with h | h
     · exact h
     ·
      subst h
      exact absurd (hn.symm.trans o1) hx
 ·
  rw [if_neg (fun q => hj q.1)]
  unfold hasS
  rw [delR_ar _ _ _ _ hj]
theorem vw_ext {S : SV} {D : Nat → ByteArray → List Int} {ys : List ByteArray} (hl : ys.length = 48) (h : ∀ t n, t < 8 → n < 6 → ys[6 * t + n]? = some (cellV S D t n)) : vwP S D 8 = ys := by
 apply List.ext_getElem?
 intro i
 by_cases hi : i < 48
 ·
  have h1 := h (i / 6) (i % 6) (by omega) (by omega)
  have h2 := vwP_at S D 8 (i / 6) (i % 6) (by omega) (by omega)
  rw [show 6 * (i / 6) + i % 6 = i by omega] at h1 h2
  rw [h1, h2]
 · rw [List.getElem?_eq_none (by rw [vwP_len]; omega), List.getElem?_eq_none (by omega)]
theorem act_room {S : SV} {a : AC} {most : Int} (hp : a.puts = true) (h0 : (doS S a most).2 = 0) : roomS (S.ar a.t0) (a.data most).length = true := by
 rw [doS_put hp] at h0
 rw [AC.data_len]
 cases h : roomS (S.ar a.t0) (a.len most)
 ·
  rw [h] at h0
  exact absurd h0 (by decide)
 · rfl
theorem hasS_act {S : SV} {n m : Nat} (hg : GS S n m) {a : AC} {most : Int} (h0 : (doS S a most).2 = 0) (t : Nat) (x : ByteArray) : hasS (doS S a most).1 t x = if t = a.t0 ∧ x = a.name then a.puts else hasS S t x := by
 have ht := a.t0_lt.1
 cases hp : a.puts
 ·
  have e : doS S a most = delR S a.t0 a.name := by unfold doS; rw [hp, if_neg (by decide)]
  rw [e] at h0 ⊢
  exact hasS_del hg ht h0 t x
 ·
  have hr := act_room hp h0
  have e : doS S a most = putR S a.t0 a.name (a.data most) := by unfold doS; rw [hp, if_pos rfl]
  rw [e]
  exact hasS_put hr t x
theorem doD_act {S : SV} (D : Nat → ByteArray → List Int) {a : AC} {most : Int} (h0 : (doS S a most).2 = 0) (t : Nat) (x : ByteArray) : doD S D a most t x = if a.puts = true ∧ t = a.t0 ∧ x = a.name then a.data most else D t x := by
 unfold doD
 cases hp : a.puts
 · rw [if_neg (by simp), if_neg (by simp)]
 ·
  rw [if_pos ⟨rfl, act_room hp h0⟩]
  unfold putD
  by_cases h1 : t = a.t0
  ·
   rw [if_pos h1]
   by_cases h2 : x = a.name
   · rw [h2, updD_self, if_pos ⟨rfl, h1, rfl⟩]
   · rw [updD_ne _ _ h2, h1, if_neg (fun q => h2 q.2.2)]
  · rw [if_neg h1, if_neg (fun q => h1 q.2.1)]
theorem view_done {S : SV} {n m : Nat} (hg : GS S n m) (D : Nat → ByteArray → List Int) (a : AC) (most : Int) (h0 : (doS S a most).2 = 0) : vwP (doS S a most).1 (doD S D a most) 8 = aftS (vwP S D 8) a most := by
 have ht := a.t0_lt.1
 have hn := a.n0_lt.1
 refine vw_ext (by unfold aftS; rw [List.length_set, vwP_len]) (fun t k h1 h2 => ?_)
 have hnm : ∀ k, k < 6 → (nmS k = a.name ↔ k = a.n0) := fun k hk => ⟨fun q => nmS_inj hk hn q, fun q => by rw [q]; rfl⟩
 have H1 := hasS_act hg h0 t (nmS k)
 have H2 := doD_act D h0 t (nmS k)
 unfold aftS cellV
 by_cases he : t = a.t0 ∧ k = a.n0
 ·
  rw [if_pos ⟨he.1, (hnm k h2).2 he.2⟩] at H1
  rw [H1, H2, he.1, he.2, List.getElem?_set_self (by rw [vwP_len]; omega)]
  unfold strA
  cases hp : a.puts
  · rfl
  · rw [if_pos rfl, if_pos rfl, if_pos ⟨rfl, rfl, rfl⟩]
 ·
  have hc : ¬ (t = a.t0 ∧ nmS k = a.name) := fun q => he ⟨q.1, (hnm k h2).1 q.2⟩
  rw [if_neg hc] at H1
  rw [if_neg (fun q => hc q.2)] at H2
  rw [List.getElem?_set_ne (by omega), vwP_at S D 8 t k h2 h1, H1, H2]
  rfl
theorem view_kept {S : SV} (D : Nat → ByteArray → List Int) (a : AC) (most : Int) (h0 : (doS S a most).2 ≠ 0) : (doS S a most).1 = S ∧ doD S D a most = D := by
 cases hp : a.puts
 ·
  have e : doS S a most = delR S a.t0 a.name := by unfold doS; rw [hp, if_neg (by decide)]
  rw [e] at h0 ⊢
  exact ⟨(delR_no h0).1, by unfold doD; rw [hp, if_neg (by simp)]⟩
 ·
  have hr : ¬ roomS (S.ar a.t0) (a.data most).length = true := by
   intro q
   rw [doS_put hp, ← AC.data_len, q] at h0
   exact h0 rfl
  have e : doS S a most = putR S a.t0 a.name (a.data most) := by unfold doS; rw [hp, if_pos rfl]
  rw [e]
  refine ⟨?_, by unfold doD; rw [if_neg (fun q => hr q.2)]⟩
  unfold putR
  rw [if_neg hr]
end Go.Proofs.YtmofiicjaldmiaaGreatDoor.SxC
end
section
namespace Go.Proofs.YtmofiicjaldmiaaGreatDoor.SxD
open Go.RowKit Go.Shelf YtmofiicjaldmiaaGreatDoorW.PrintWords YtmofiicjaldmiaaGreatDoorW.PrintLast SvA SvB SvC SvD SvE SvF SvG SvH SvI SvJ SvK SvL SvM SvN SvO SvP SvQ SvR SvS SvT SvU SvV SvW SvX SvY SvZ SwA SwB SwC SwD SwE SwF SwG SwI SwJ SwK SwH SwL SwM SwN SwO SwP SwQ SwR SwS SwT SwX SxA SxB SwY SwV SxC
set_option linter.unusedVariables false
set_option linter.unusedSimpArgs false
open Go.Lib
theorem strK_K {w w1 : World} {x : ByteArray} {cs : List Value} (h : strK.K w x cs) : strK.K w1 x cs := h
def Shown (w : World) (own : Nat → Nat) (ob : Nat) (z : Sl) (xs : List ByteArray) : Prop := Blk w ob #[z.enc] 38 ∧ own ob = 1 ∧ Rd strK w own 0 z xs ∧ ∃ gb : Nat, z.A = some ⟨gb, 0, none⟩
theorem Shown.keep {w w' : World} {own own' : Nat → Nat} {ob : Nat} {z : Sl} {xs : List ByteArray} {ts : Nat → Prop} (h : Shown w own ob z xs) (hk : Kp ts w own w' own') (h0 : ¬ ts 0) (h1 : ¬ ts 1) : Shown w' own' ob z xs := by
 obtain ⟨a, b, c, gd⟩ := h
 obtain ⟨a', b'⟩ := a.keep hk (by rw [b]; exact h1)
 exact ⟨a', b'.trans b, c.keep strK_K (by decide) hk h0, gd⟩
theorem strP_rd {w w' : World} {own o : Nat → Nat} {z : Sl} {ys : List ByteArray} (h : Ow strK 9 w' o 2 z ys) (ho : ∀ k, k < w.heap.size → o k = 0) : Rd strK w' (tagged w own 0) 0 z ys := by
 obtain ⟨a, b, c⟩ := ow_rd h
 refine ⟨a, b, fun ad ha hn => tagged_new ?_⟩
 have h1 := c ad ha hn
 rcases Nat.lt_or_ge ad.block w.heap.size with h2 | h2
 ·
  rw [ho _ h2] at h1
  exact absurd h1 (by decide)
 · exact h2
def kst (t : Nat) (q : Nat) : Prop := k20 t q ∨ q = 1
def StepR (w : World) (own : Nat → Nat) (t g gs : Nat) (ga : Nat → Nat) (ob : Nat) (S : SV) (D : Nat → ByteArray → List Int) (a : AC) (e : Ending) (w' : World) : Prop :=
  e = .returned (.bool true) ∧ ∃ (own' : Nat → Nat) (z' : Sl), SvMem w' own' t g gs ga (doS S a 3000).1 ∧ Shown w' own' ob z' (vwP (doS S a 3000).1 (doD S D a 3000) 8) ∧ Kp (kst t) w own w' own'
theorem step_code {S : SV} {n m : Nat} (hg : GS S n m) (a : AC) (most : Int) : ((doS S a most).2 = 0 ∧ (a.puts = true ∨ hasS S a.t0 a.name = true)) ∨ ((doS S a most).2 = 112 ∧ a.puts = true) ∨ ((doS S a most).2 = 111 ∧ a.puts = false ∧ hasS S a.t0 a.name = false) := by
 cases hp : a.puts
 ·
  have e : doS S a most = delR S a.t0 a.name := by unfold doS; rw [hp, if_neg (by decide)]
  rw [e, (delR_at _ _ _).2]
  unfold hasS
  cases (oldS (S.ar a.t0) a.name).isSome
  · exact .inr (.inr ⟨rfl, rfl, rfl⟩)
  · exact .inl ⟨rfl, .inr rfl⟩
 ·
  rw [doS_put hp]
  cases roomS (S.ar a.t0) (a.len most)
  · exact .inr (.inl ⟨rfl, rfl⟩)
  · exact .inl ⟨rfl, .inl rfl⟩
theorem had_cell {S : SV} {D : Nat → ByteArray → List Int} {a : AC} : (vwP S D 8)[6 * a.t0 + a.n0]? = some (cellV S D a.t0 a.n0) ∧ (!(cellV S D a.t0 a.n0 == (⟨#[45]⟩ : ByteArray))) = hasS S a.t0 a.name := by
 refine ⟨vwP_at S D 8 _ _ a.n0_lt.1 a.t0_lt.1, ?_⟩
 unfold cellV AC.name
 cases hasS S a.t0 (nmS a.n0)
 ·
  rw [if_neg (by decide)]
  decide
 ·
  rw [if_pos rfl]
  rw [SwX.bax]
  · rfl
  ·
   intro q
   have h0 := congrArg (fun b : ByteArray => b.toList.head?) q
   simp only [ByteArray.toList_eq, ByteArray.data_append, Array.toList_append] at h0
   exact absurd h0 (by simp)
theorem rd_ss {w : World} {own : Nat → Nat} {ob : Nat} {z : Sl} {xs : List ByteArray} (h : Shown w own ob z xs) : SsAt w z.A xs := fun j x hx => by
 obtain ⟨_, _, ⟨hC, _, _⟩, gb, hA⟩ := h
 have hl : xs.length = z.n := hC.1
 have hj := (List.getElem?_eq_some_iff.1 hx).1
 obtain ⟨ad, h1, h2⟩ := sc_at hC j (by omega) x hx
 rw [hA] at h1
 injection h1 with h1
 subst h1
 rw [add_plain] at h2
 exact ⟨gb, hA, h2⟩
set_option maxRecDepth 100000 in
set_option maxHeartbeats 2000000 in
theorem step_ok (w : World) (own : Nat → Nat) (t g gs : Nat) (ga : Nat → Nat) (S : SV) (H : SvMem w own t g gs ga S) (ht : 100 ≤ t) {n m : Nat} {D : Nat → ByteArray → List Int} (hg : GS S n m) (hc : CS S D) (hn : 8 ≤ n) (hN : GN S) (hm : m + 1 < 4294967296) (ob : Nat) (z : Sl) (hs : Shown w own ob z (vwP S D 8)) (a : AC) (ha : a.wf) :
  Calls Tryz.prog 40 #[pt g, a.enc, pt ob] w (StepR w own t g gs ga ob S D a) := by
 have HDO := Lib.hid (fun (v : World) (o : Nat → Nat) (M : SvMem v o t g gs ga S) (W : World) (h : Below v.heap.size v W) => does_at v o t g gs ga S M (by omega) hg hm W h a ha 3000 (by omega) (by omega))
 have HAT := Lib.hid (fun W => at_ok a ha W)
 have HPU := Lib.hid (fun W => puts_ok a W)
 have hco := step_code hg a 3000
 have hhc := had_cell (S := S) (D := D) (a := a)
 obtain ⟨hgs, hcs⟩ := doS_all hg hc a 3000 (by omega) (by omega) hm
 have HV := Lib.hid (fun (W : World) (o : Nat → Nat) (M : SvMem W o t g gs ga (doS S a 3000).1) => view_ok W o t g gs ga (doS S a 3000).1 M hgs hcs hn (GN.act hN a 3000))
 have hai : 6 * a.t0 + a.n0 < 48 := by have := a.t0_lt.1; have := a.n0_lt.1; omega
 have HY : vwP (doS S a 3000).1 (doD S D a 3000) 8 = if (doS S a 3000).2 = 0 then aftS (vwP S D 8) a 3000 else vwP S D 8 := by
  split
  ·
   rename_i h0
   exact view_done hg D a 3000 h0
  ·
   rename_i h0
   rw [(view_kept D a 3000 h0).1, (view_kept D a 3000 h0).2]
 have hxl : (vwP S D 8).length = 48 := vwP_len _ _ _
 unfold StepR
 generalize hasS S a.t0 a.name = had at *
 generalize cellV S D a.t0 a.n0 = cv at *
 generalize 6 * a.t0 + a.n0 = ai at *
 generalize vwP (doS S a 3000).1 (doD S D a 3000) 8 = ys at *
 generalize vwP S D 8 = xs at *
 generalize doS S a 3000 = R at *
 generalize doD S D a 3000 = D2 at *
 have HM := Lib.hid H
 clear hgs hcs H hg hc hN hm hn
 have HCO := Lib.hid hco
 have HHC := Lib.hid hhc
 have HYY := Lib.hid HY
 have HXL := Lib.hid hxl
 have HAF := Lib.hid (fun (W : World) (A : Option Addr) (c : Nat) (hx : strK.C W A xs.length xs) => after_ok W A c xs hx hxl a ha 3000 (by omega) (by omega))
 have HSH := Lib.hid hs
 clear hco hhc HY hxl hs
 obtain ⟨k, tn, nn, b⟩ := a
 dsimp only [AC.enc] at *
 have hBX : ∀ W, Below (w.alloc (.cells #[.int .i64 k, .int .i64 tn, .int .i64 nn, .int .i64 b] 33)).heap.size (w.alloc (.cells #[.int .i64 k, .int .i64 tn, .int .i64 nn, .int .i64 b] 33)) W → W.cell? ⟨w.heap.size, 0, none⟩ = some (.int .i64 k) ∧ W.cell? ⟨w.heap.size, 1, none⟩ = some (.int .i64 tn) ∧ W.cell? ⟨w.heap.size, 2, none⟩ = some (.int .i64 nn) ∧ W.cell? ⟨w.heap.size, 3, none⟩ = some (.int .i64 b) := fun W h => ⟨cellOf h (Blk.cell (i := 0) (blkNew rfl) rfl), cellOf h (Blk.cell (i := 1) (blkNew rfl) rfl), cellOf h (Blk.cell (i := 2) (blkNew rfl) rfl), cellOf h (Blk.cell (i := 3) (blkNew rfl) rfl)⟩
 have hB1 := ba (w := w) (.cells #[.int .i64 k, .int .i64 tn, .int .i64 nn, .int .i64 b] 33)
 have M1 := HM.out.below hB1
 have k1 := Kp.below (ts := kst t) (own := own) hB1 0
 have s1 := HSH.out.keep (Kp.below (ts := fun _ => False) (own := own) hB1 0) (fun q => q) (fun q => q)
 have bb : Blk (w.alloc (.cells #[.int .i64 k, .int .i64 tn, .int .i64 nn, .int .i64 b] 33)) w.heap.size #[.int .i64 k, .int .i64 tn, .int .i64 nn, .int .i64 b] 33 := blkNew rfl
 have ob0 : tagged w own 0 w.heap.size = 0 := tagged_new (Nat.le_refl _)
 go_enter Tryz.func40, Tryz.ntmps40
 go_upto_region 1 with (fail)
 generalize w.alloc (.cells #[.int .i64 k, .int .i64 tn, .int .i64 nn, .int .i64 b] 33) = v1 at *
 generalize tagged w own 0 = o1 at *
 have HDX := Lib.hid (HDO.out v1 o1 M1)
 have HK1 := Lib.hid k1
 have HS1 := Lib.hid s1
 have HBB := Lib.hid bb
 have HOB := Lib.hid ob0
 clear hBX M1 k1 s1 ob0 HDO HM HSH
 have b0 := Blk.cell (i := 0) bb rfl
 have b1 := Blk.cell (i := 1) bb rfl
 have b2 := Blk.cell (i := 2) bb rfl
 have b3 := Blk.cell (i := 3) bb rfl
 clear bb
 have nt0 : ¬ k20 t 0 := by intro h; have := h.1; omega
 have nt1 : ¬ k20 t 1 := by intro h; have := h.1; omega
 have kk : ∀ {w w' : World} {o o' : Nat → Nat}, Kp (k20 t) w o w' o' → Kp (kst t) w o w' o' := fun h => h.mono (fun q hq => .inl hq)
 obtain ⟨zA, zn, zc⟩ := z
 go_upto_region 3 with (go_at_call 18; (with_reducible refine Calls.mono (HDX.out _ (Below.refl _ _)) ?_); rintro e w3 ⟨rfl, o3, M3, k3⟩; have bb := HBB.out.keep k3 (by rw [HOB.out]; exact nt0); have b0 := Blk.cell (i := 0) bb.1 rfl; have b1 := Blk.cell (i := 1) bb.1 rfl; have b2 := Blk.cell (i := 2) bb.1 rfl; have b3 := Blk.cell (i := 3) bb.1 rfl; have s3 := HS1.out.keep k3 nt0 nt1; have c0 := Blk.cell (i := 0) s3.1 rfl; unfold Sl.enc at c0; have HM3 := Lib.hid M3; have HK3 := Lib.hid (HK1.out.trans (kk k3)); have HS3 := Lib.hid s3; have HBB3 := Lib.hid bb; clear M3 k3 s3 bb)
 have hC : strK.C w3 zA zn xs := HS3.out.2.2.1.1
 have hzl : xs.length = zn := hC.1
 subst hzl
 have hai2 : (ai : Int) < (xs.length : Int) := by have := HXL.out; omega
 have hai0 : (0 : Int) ≤ (ai : Int) := by omega
 obtain ⟨ad, hzA, q0⟩ := sc_at hC ai (by omega) cv HHC.out.1
 subst hzA
 have hnc : (!(cv.toList == [45])) = had := by rw [← HHC.out.2, ← toList_beq, show (⟨#[45]⟩ : ByteArray).toList = [45] by rw [ByteArray.toList_eq]]
 obtain ⟨S2, rc⟩ := R
 dsimp only at *
 rcases HCO.out with ⟨h0, hq⟩ | ⟨h0, hp⟩ | ⟨h0, hp, hh⟩
 ·
  subst h0
  have hy : ys = aftS xs ⟨k, tn, nn, b⟩ 3000 := by rw [HYY.out, if_pos rfl]
  have hyl : ys.length = 48 := by rw [hy]; unfold aftS; rw [List.length_set]; exact HXL.out
  have HYL := Lib.hid hyl
  rw [← hy] at HAF
  clear hyl hy
  have hq2 : (AC.puts ⟨k, tn, nn, b⟩ = false ∧ had = true) ∨ AC.puts ⟨k, tn, nn, b⟩ = true := by
   rcases hq with q | q
   · exact .inr q
   ·
    rcases hpp : AC.puts ⟨k, tn, nn, b⟩
    · exact .inl ⟨rfl, q⟩
    · exact .inr rfl
  clear hq
  rcases hq2 with ⟨hp, rfl⟩ | hp
  all_goals
   rw [hp] at HPU
   go_upto_region 9 with (first
    | (go_at_call 28; refine (HAT.out _).mono ?_; rintro e w4 ⟨rfl, hb4⟩; have q1 := cellOf hb4 q0; obtain ⟨y0, y1, y2, y3⟩ := (show w4.cell? ⟨w.heap.size, 0, none⟩ = _ ∧ w4.cell? ⟨w.heap.size, 1, none⟩ = _ ∧ w4.cell? ⟨w.heap.size, 2, none⟩ = _ ∧ w4.cell? ⟨w.heap.size, 3, none⟩ = _ from ⟨cellOf hb4 b0, cellOf hb4 b1, cellOf hb4 b2, cellOf hb4 b3⟩); have HB4 := Lib.hid hb4; clear hb4 q0)
    | (go_at_call 27; refine (HPU.out _).mono ?_; rintro e w5 ⟨rfl, hb5⟩; obtain ⟨u0, u1, u2, u3⟩ := (show w5.cell? ⟨w.heap.size, 0, none⟩ = _ ∧ w5.cell? ⟨w.heap.size, 1, none⟩ = _ ∧ w5.cell? ⟨w.heap.size, 2, none⟩ = _ ∧ w5.cell? ⟨w.heap.size, 3, none⟩ = _ from ⟨cellOf hb5 y0, cellOf hb5 y1, cellOf hb5 y2, cellOf hb5 y3⟩); have HB5 := Lib.hid (HB4.out.trans (hb5.mono HB4.out.size)); clear hb5)
    | (go_at_call 38; (with_reducible refine Calls.mono (HAF.out _ _ _ (Kd.C_below hC HB5.out)) ?_); rintro e w6 ⟨⟨qA, qn, qc⟩, qo, rfl, z1, z2, z3⟩; have HZ1 := Lib.hid z1; have HZ2 := Lib.hid z2; have HB6 := Lib.hid z3; have s6 := ((HS3.out.1.below HB5.out).below z3); have c6 := Blk.cell (i := 0) s6 rfl; have f6 := Blk.frozen (i := 0) s6; have HS6 := Lib.hid s6; clear z1 z2 z3 s6; unfold Sl.enc at *))
   have kS : Kp (fun q => q = 1) w6 (tagged w5 (tagged w3 o3 0) 0) (w6.setCell ⟨ob, 0, none⟩ (.slice qA qn qc)) (tagged w5 (tagged w3 o3 0) 0) := (Kp.refl _ _ _).set _ _ (fun j hj hn q => hn (by
    have h1 : ob < w3.heap.size := HS3.out.1.lt
    have h2 : ob < w5.heap.size := Nat.lt_of_lt_of_le h1 HB5.out.size
    rw [q]
    show tagged w5 (tagged w3 o3 0) 0 ob = 1
    rw [tagged_old h2, tagged_old h1]
    exact HS3.out.2.1))
   have M7 := ((HM3.out.below HB5.out).below HB6.out).keep kS (by decide) (fun q h1 h2 => by omega)
   have hql : ys.length = qn := (ow_len HZ1.out).1
   have hq48 := HYL.out
   obtain ⟨gb, hgb⟩ := ow_head HZ1.out (show 0 < qn by omega)
   injection hgb with hgA
   subst hgA hql
   have k7 := ((HK3.out.trans (Kp.below HB5.out 0)).trans (Kp.below HB6.out 0)).trans (kS.mono (ts' := kst t) (fun q hq => .inr hq))
   have s7 : Shown (w6.setCell ⟨ob, 0, none⟩ (.slice (some ⟨gb, 0, none⟩) ys.length qc)) (tagged w5 (tagged w3 o3 0) 0) ob ⟨some ⟨gb, 0, none⟩, ys.length, qc⟩ ys := ⟨Blk.set HS6.out (i := 0) _, by
    have h1 : ob < w3.heap.size := HS3.out.1.lt
    have h2 : ob < w5.heap.size := Nat.lt_of_lt_of_le h1 HB5.out.size
    rw [tagged_old h2, tagged_old h1]
    exact HS3.out.2.1, (strP_rd HZ1.out HZ2.out).keep strK_K (by decide) kS (by decide), gb, rfl⟩
   clear kS u0 u1 u2 u3 c6 f6 hq48
   generalize w6.setCell ⟨ob, 0, none⟩ (.slice (some ⟨gb, 0, none⟩) ys.length qc) = v7 at *
   generalize tagged w5 (tagged w3 o3 0) 0 = o7 at *
   have HVV := Lib.hid (HV.out v7 o7 M7)
   have HM7 := Lib.hid M7
   have HS7 := Lib.hid s7
   have HK7 := Lib.hid k7
   clear M7 s7 k7
   go_wp2_with (first
    | (go_at_call 21; (with_reducible refine Calls.mono HVV.out ?_); rintro e w8 ⟨⟨vA, vn, vc⟩, vo, rfl, z1, z2, z3⟩; have HB8 := Lib.hid z3; have HX8 := Lib.hid (ss_of z1); obtain rfl : ys.length = vn := (ow_len z1).1; have s8 : Shown w8 _ ob ⟨some ⟨gb, 0, none⟩, ys.length, qc⟩ ys := HS7.out.keep (Kp.below (ts := fun _ => False) z3 0) (fun q => q) (fun q => q); have c8 := Blk.cell (i := 0) s8.1 rfl; have HSS := Lib.hid s8; have HS8 := Lib.hid (show SsAt w8 (some ⟨gb, 0, none⟩) ys from rd_ss s8); clear z1 z2 z3 s8; unfold Sl.enc at *)
    | (go_at_call 33; (with_reducible refine Calls.mono (same_ok _ _ _ _ _ ys ys HX8.out HS8.out (by have := HYL.out; omega) (by have := HYL.out; omega)) ?_); rintro e w9 ⟨rfl, hb9⟩; have HB9 := Lib.hid hb9; clear hb9))
   go_ret
   exact ⟨ret_bool (by simp), _, (HM7.out.below HB8.out).below HB9.out, ⟨_, HSS.out.keep (Kp.below (ts := fun _ => False) HB9.out 0) (fun q => q) (fun q => q)⟩, (HK7.out.trans (Kp.below HB8.out 0)).trans (Kp.below HB9.out 0)⟩
 ·
  subst h0
  rw [hp] at HPU
  have hy : ys = xs := by rw [HYY.out, if_neg (by decide)]
  go_upto_region 9 with (first
   | (go_at_call 28; refine (HAT.out _).mono ?_; rintro e w4 ⟨rfl, hb4⟩; have q1 := cellOf hb4 q0; obtain ⟨y0, y1, y2, y3⟩ := (show w4.cell? ⟨w.heap.size, 0, none⟩ = _ ∧ w4.cell? ⟨w.heap.size, 1, none⟩ = _ ∧ w4.cell? ⟨w.heap.size, 2, none⟩ = _ ∧ w4.cell? ⟨w.heap.size, 3, none⟩ = _ from ⟨cellOf hb4 b0, cellOf hb4 b1, cellOf hb4 b2, cellOf hb4 b3⟩); have HB4 := Lib.hid hb4; clear hb4 q0)
   | (go_at_call 27; refine (HPU.out _).mono ?_; rintro e w5 ⟨rfl, hb5⟩; have HB5 := Lib.hid (HB4.out.trans (hb5.mono HB4.out.size)); clear hb5))
  have M5 := HM3.out.below HB5.out
  have s5 := HS3.out.keep (Kp.below (ts := fun _ => False) HB5.out 0) (fun q => q) (fun q => q)
  have k5 := HK3.out.trans (Kp.below HB5.out 0)
  subst hy
  generalize tagged w3 o3 0 = o5 at *
  have HVV := Lib.hid (HV.out w5 o5 M5)
  have HM5 := Lib.hid M5
  have HS5 := Lib.hid s5
  have HK5 := Lib.hid k5
  clear M5 s5 k5
  go_wp2_with (first
   | (go_at_call 21; (with_reducible refine Calls.mono HVV.out ?_); rintro e w6 ⟨⟨vA, vn, vc⟩, vo, rfl, z1, z2, z3⟩; have HB6 := Lib.hid z3; have HX6 := Lib.hid (ss_of z1); obtain rfl : ys.length = vn := (ow_len z1).1; have s6 : Shown w6 _ ob ⟨some ad, ys.length, zc⟩ ys := HS5.out.keep (Kp.below (ts := fun _ => False) z3 0) (fun q => q) (fun q => q); have c6 := Blk.cell (i := 0) s6.1 rfl; have HSS := Lib.hid s6; have HS6 := Lib.hid (show SsAt w6 (some ad) ys from rd_ss s6); clear z1 z2 z3 s6; unfold Sl.enc at *)
   | (go_at_call 33; (with_reducible refine Calls.mono (same_ok _ _ _ _ _ ys ys HX6.out HS6.out (by have := HXL.out; omega) (by have := HXL.out; omega)) ?_); rintro e w7 ⟨rfl, hb7⟩; have HB7 := Lib.hid hb7; clear hb7))
  go_ret
  refine ⟨ret_bool (by simp), _, (HM5.out.below HB6.out).below HB7.out, ⟨_, HSS.out.keep (Kp.below (ts := fun _ => False) HB7.out 0) (fun q => q) (fun q => q)⟩, (HK5.out.trans (Kp.below HB6.out 0)).trans (Kp.below HB7.out 0)⟩
 ·
  subst h0
  rw [hp] at HPU
  rw [hh] at hnc
  have hy : ys = xs := by rw [HYY.out, if_neg (by decide)]
  go_upto_region 9 with (first
   | (go_at_call 28; refine (HAT.out _).mono ?_; rintro e w4 ⟨rfl, hb4⟩; have q1 := cellOf hb4 q0; obtain ⟨y0, y1, y2, y3⟩ := (show w4.cell? ⟨w.heap.size, 0, none⟩ = _ ∧ w4.cell? ⟨w.heap.size, 1, none⟩ = _ ∧ w4.cell? ⟨w.heap.size, 2, none⟩ = _ ∧ w4.cell? ⟨w.heap.size, 3, none⟩ = _ from ⟨cellOf hb4 b0, cellOf hb4 b1, cellOf hb4 b2, cellOf hb4 b3⟩); have HB4 := Lib.hid hb4; clear hb4 q0)
   | (go_at_call 27; refine (HPU.out _).mono ?_; rintro e w5 ⟨rfl, hb5⟩; have HB5 := Lib.hid (HB4.out.trans (hb5.mono HB4.out.size)); clear hb5))
  have M5 := HM3.out.below HB5.out
  have s5 := HS3.out.keep (Kp.below (ts := fun _ => False) HB5.out 0) (fun q => q) (fun q => q)
  have k5 := HK3.out.trans (Kp.below HB5.out 0)
  subst hy
  generalize tagged w3 o3 0 = o5 at *
  have HVV := Lib.hid (HV.out w5 o5 M5)
  have HM5 := Lib.hid M5
  have HS5 := Lib.hid s5
  have HK5 := Lib.hid k5
  clear M5 s5 k5
  go_wp2_with (first
   | (go_at_call 21; (with_reducible refine Calls.mono HVV.out ?_); rintro e w6 ⟨⟨vA, vn, vc⟩, vo, rfl, z1, z2, z3⟩; have HB6 := Lib.hid z3; have HX6 := Lib.hid (ss_of z1); obtain rfl : ys.length = vn := (ow_len z1).1; have s6 : Shown w6 _ ob ⟨some ad, ys.length, zc⟩ ys := HS5.out.keep (Kp.below (ts := fun _ => False) z3 0) (fun q => q) (fun q => q); have c6 := Blk.cell (i := 0) s6.1 rfl; have HSS := Lib.hid s6; have HS6 := Lib.hid (show SsAt w6 (some ad) ys from rd_ss s6); clear z1 z2 z3 s6; unfold Sl.enc at *)
   | (go_at_call 33; (with_reducible refine Calls.mono (same_ok _ _ _ _ _ ys ys HX6.out HS6.out (by have := HXL.out; omega) (by have := HXL.out; omega)) ?_); rintro e w7 ⟨rfl, hb7⟩; have HB7 := Lib.hid hb7; clear hb7))
  go_ret
  refine ⟨ret_bool (by simp), _, (HM5.out.below HB6.out).below HB7.out, ⟨_, HSS.out.keep (Kp.below (ts := fun _ => False) HB7.out 0) (fun q => q) (fun q => q)⟩, (HK5.out.trans (Kp.below HB6.out 0)).trans (Kp.below HB7.out 0)⟩
end Go.Proofs.YtmofiicjaldmiaaGreatDoor.SxD
end
section
namespace Go.Proofs.YtmofiicjaldmiaaGreatDoor.SxE
open Go.RowKit Go.Shelf YtmofiicjaldmiaaGreatDoorW.PrintWords YtmofiicjaldmiaaGreatDoorW.PrintLast SvA SvB SvC SvD SvE SvF SvG SvH SvI SvJ SvK SvL SvM SvN SvO SvP SvQ SvR SvS SvT SvU SvV SvW SvX SvY SvZ SwA SwB SwC SwD SwE SwF SwG SwI SwJ SwK SwH SwL SwM SwN SwO SwP SwQ SwR SwS SwT SwX SxA SxB SwY SwV SxC SxD SxH
set_option linter.unusedVariables false
set_option linter.unusedSimpArgs false
open Go.Lib
def FnSt (w : World) (N g gs : Nat) (ga : Nat → Nat) (ob : Nat) (k : Nat) (wr : World) : Prop := ∃ S own' D z, SvMem wr own' 100 g gs ga S ∧ GS S N k ∧ CS S D ∧ GN S ∧ TN S ∧ Shown wr own' ob z (vwP S D 8) ∧ Kp (kst 100) w (fun _ => 0) wr own'
def FoundP (w : World) (e : Ending) (w' : World) : Prop := ∃ (N k g gs : Nat) (ga : Nat → Nat) (S : SV) (own' : Nat → Nat) (D : Nat → ByteArray → List Int) (z : Sl), e = .returned (.tuple #[pt gs, pt g, z.enc, .bool true]) ∧ 400 ≤ N ∧ N < 800 ∧ k ≤ 60 ∧ SvMem w' own' 100 g gs ga S ∧ GS S N k ∧ CS S D ∧ GN S ∧ TN S ∧ Rd strK w' own' 0 z (vwP S D 8) ∧ (∃ gb, z.A = some ⟨gb, 0, none⟩) ∧ Kp (kst 100) w (fun _ => 0) w' own'
set_option maxRecDepth 100000 in
set_option maxHeartbeats 4000000 in
theorem founded_ok (a0 : Int) (A : Option Addr) (c : Nat) (xs : List AC) (h0 : i64s a0) (w : World) (hxs : AcAt w A xs) (hc : xs.length ≤ c) (hl : xs.length ≤ 9223372036854775807) : Calls Tryz.prog 30 #[.int .i64 a0, .slice A xs.length c] w (FoundP w) := by
 obtain ⟨p, hp⟩ : ∃ p : Nat, pk a0 400 = (p : Int) := ⟨(pk a0 400).toNat, by have := pk_bd a0 400 (by omega); omega⟩
 have hpb : p < 400 := by have := pk_bd a0 400 (by omega); omega
 have HP1 := Lib.hid (fun W => pick_ok a0 400 W h0 (by omega) (by omega))
 rw [hp] at HP1
 clear hp
 have hnew : ∀ W : World, Calls Tryz.prog 16 #[.int .i64 (400 + (p : Int))] W (NewP W (List.replicate (512 * (400 + p)) 0)) := fun W => by
  have := new_ok W (400 + p) (by omega) (by omega)
  rwa [show ((400 + p : Nat) : Int) = 400 + (p : Int) by omega] at this
 have hNb : 400 ≤ 400 + p ∧ 400 + p < 800 := by omega
 generalize hN : 400 + p = N at *
 have HAW := Lib.hid (fun W => awake_ok W)
 have HNEW := Lib.hid hnew
 have HN := Lib.hid hN
 clear hnew hN
 have HOP := Lib.hid (fun (W : World) (gs : Nat) (own : Nat → Nat) (H : StA W own 100 gs (BS.fresh (List.replicate (512 * N) 0))) => new_open W N (by omega) (by omega) gs own 100 (by decide) H)
 obtain ⟨g0, c0⟩ := GS.start N (by omega) (fun _ _ => [])
 have n0 := GN.start (BS.fresh (List.replicate (512 * N) 0))
 have t0 := TN.start (BS.fresh (List.replicate (512 * N) 0))
 have HV0 := Lib.hid (fun (W : World) (own : Nat → Nat) (g gs : Nat) (ga : Nat → Nat) (H : SvMem W own 100 g gs ga (S0 (BS.fresh (List.replicate (512 * N) 0)))) => view_ok W own 100 g gs ga _ H g0 c0 (by omega) n0)
 have hvl : (vwP (S0 (BS.fresh (List.replicate (512 * N) 0))) (fun _ _ => []) 8).length = 48 := vwP_len _ _ _
 have HI := Lib.hid (fun (wv : World) (g gs : Nat) (ga : Nat → Nat) (ob : Nat) (W : World) (o : Nat → Nat) (z : Sl) (H : SvMem W o 100 g gs ga (S0 (BS.fresh (List.replicate (512 * N) 0)))) (hs : Shown W o ob z (vwP (S0 (BS.fresh (List.replicate (512 * N) 0))) (fun _ _ => []) 8)) (hk : Kp (kst 100) wv (fun _ => 0) W o) => (show FnSt wv N g gs ga ob 0 W from ⟨_, o, _, z, H, g0, c0, n0, t0, hs, hk⟩))
 generalize vwP (S0 (BS.fresh (List.replicate (512 * N) 0))) (fun _ _ => []) 8 = ys at *
 generalize S0 (BS.fresh (List.replicate (512 * N) 0)) = s0 at *
 clear g0 c0 n0 t0
 have HVL := Lib.hid hvl
 have HXS := Lib.hid hxs
 clear hxs hvl
 go_enter Tryz.func30, Tryz.ntmps30
 go_upto_region 7 with (first
  | (go_at_call 14; (with_reducible refine (HAW.out _).mono ?_); rintro e w0 ⟨rfl, hb0⟩; have HB0 := Lib.hid hb0; clear hb0)
  | (go_at_call 15; (with_reducible refine (HP1.out _).mono ?_); rintro e w' ⟨rfl, rfl⟩)
  | (go_at_call 16; refine (HNEW.out _).mono ?_; rintro e w1 ⟨gs, rfl, hgs, hb1, hN⟩; obtain ⟨o1, st1, k1⟩ := hN (fun _ => 0) 100; have K1 := Lib.hid k1; have ST1 := Lib.hid st1; clear k1 st1 hN hgs hb1)
  | (go_at_call 17; refine Calls.mono (HOP.out _ gs o1 ST1.out) ?_; rintro e w2 ⟨g, o2, ga, rfl, hg2x, M2, k2⟩; have K2 := Lib.hid (And.intro M2 k2); clear M2 k2 hg2x)
  | (go_at_call 21; (with_reducible refine Calls.mono (HV0.out w2 o2 g gs ga K2.out.1) ?_); rintro e w3 ⟨⟨vA, vn, vc⟩, vo, rfl, z1, z2, z3⟩; have HZ := Lib.hid (And.intro z1 (And.intro z2 z3)); clear z1 z2 z3; unfold Sl.enc))
 obtain ⟨z1, z2, z3⟩ := HZ.out
 have hvn : ys.length = vn := (ow_len z1).1
 have hvl := HVL.out
 obtain ⟨gb, hgb⟩ := ow_head z1 (show 0 < vn by omega)
 injection hgb with hgA
 subst hgA hvn
 have hk2 : Kp (kst 100) w (fun _ => 0) w2 o2 := (((kp_zero HB0.out).trans (K1.out.mono (fun _ h => h.elim))).trans K2.out.2).mono (fun _ h => .inl h)
 have hk3 : Kp (kst 100) w (fun _ => 0) w3 (tagged w2 o2 0) := hk2.trans (Kp.below z3 0)
 have hBx := ba (w := w3) (.cells #[.slice (some ⟨gb, 0, none⟩) ys.length vc] 38)
 have hk4 := hk3.trans (Kp.below hBx 1)
 have hM4 := (K2.out.1.below z3).keep (Kp.below (ts := fun _ => False) hBx 1) (fun q => q) (fun _ _ _ q => q)
 have hs4 : Shown (w3.alloc (.cells #[.slice (some ⟨gb, 0, none⟩) ys.length vc] 38)) (tagged w3 (tagged w2 o2 0) 1) w3.heap.size ⟨some ⟨gb, 0, none⟩, ys.length, vc⟩ ys := ⟨blkNew rfl, tagged_new (Nat.le_refl _), (strP_rd z1 z2).keep strK_K (by decide) (Kp.below (ts := fun _ => False) hBx 1) (fun q => q), gb, rfl⟩
 have HST := Lib.hid (HI.out w g gs ga w3.heap.size _ _ _ hM4 hs4 hk4)
 clear z1 z2 z3 hk2 hk3 hBx hk4 hM4 hs4 hvl
 generalize w3.alloc (.cells #[.slice (some ⟨gb, 0, none⟩) ys.length vc] 38) = v4 at *
 generalize w3.heap.size = ob at *
 go_wp2_with fail
 go_loopw [14, 15] (fun u v wr => ∃ k : Nat, k ≤ 60 ∧ k ≤ xs.length ∧ u = .bool true ∧ v = .int .i64 (k : Int) ∧ FnSt w N g gs ga ob k wr) (fun _ v _ => 60 - (intOf v).toNat)
 case atStart => exact ⟨0, by omega, by omega, rfl, rfl, HST.out⟩
 case round =>
  clear HST
  obtain ⟨k, hk60, hk, rfl, rfl, S, own', D, z, M, G, C, gn, tn, sh, kp⟩ := hrel
  have hb : Below w.heap.size w wr := kp_below kp (by intro h; rcases h with h | h; (have := h.1; omega); omega)
  by_cases hc1 : k < xs.length
  ·
   have dl1 : decide ((k : Int) < (xs.length : Int)) = true := by simp; omega
   by_cases hc2 : k < 60
   ·
    have dl2 : decide ((k : Int) < 60) = true := by simp; omega
    have hlt' : (k : Int) < (xs.length : Int) := by omega
    obtain ⟨x, hx⟩ : ∃ x, xs[k]? = some x := ⟨_, List.getElem?_eq_getElem hc1⟩
    obtain ⟨hw, ad, hA, c0, c1, c2, c3⟩ := (HXS.out.below hb) k x hx
    subst hA
    obtain ⟨G2, C2⟩ := doS_all G C x 3000 (by omega) (by omega) (by omega)
    have HT := Lib.hid (step_ok wr own' 100 g gs ga S M (by omega) G C (by omega) gn (by omega) ob z sh x hw)
    have HNX := Lib.hid (fun (W : World) (o : Nat → Nat) (zz : Sl) (H : SvMem W o 100 g gs ga (doS S x 3000).1) (hs : Shown W o ob zz (vwP (doS S x 3000).1 (doD S D x 3000) 8)) (hk : Kp (kst 100) wr own' W o) => (show FnSt w N g gs ga ob (k + 1) W from ⟨_, o, _, zz, H, G2, C2, GN.act gn x 3000, TN.act tn x 3000, hs, kp.trans hk⟩))
    have hxe : x.enc = .agg #[.int .i64 x.kind, .int .i64 x.ten, .int .i64 x.nm, .int .i64 x.bytes] := rfl
    rw [hxe] at HT
    clear M G C gn tn sh kp hb G2 C2 hx hxe
    go_wp2_with (go_at_call 40; (with_reducible refine Calls.mono HT.out ?_); rintro e w5 ⟨rfl, o5, z5, h1, h2, h3⟩; have HE := Lib.hid (HNX.out w5 o5 z5 h1 h2 h3); clear h1 h2 h3)
    exact ⟨⟨k + 1, by omega, by omega, rfl, by go_num, HE.out⟩, by simp [intOf]; omega⟩
   ·
    have dl2 : decide ((k : Int) < 60) = false := by simp; omega
    obtain ⟨zA, zn, zc⟩ := z
    have cz := Blk.cell (i := 0) sh.1 rfl
    unfold Sl.enc at cz
    have HF := Lib.hid (fun (W : World) (hk : Kp (fun _ => False) wr own' W own') => (show FoundP w (.returned (.tuple #[pt gs, pt g, .slice zA zn zc, .bool true])) W from ⟨N, k, g, gs, ga, S, own', D, ⟨zA, zn, zc⟩, rfl, by omega, by omega, hk60, M.keep hk (fun q => q) (fun _ _ _ q => q), G, C, gn, tn, sh.2.2.1.keep strK_K (by decide) hk (fun q => q), sh.2.2.2, kp.trans (hk.mono (fun _ h => h.elim))⟩))
    clear M G C gn tn sh kp hb
    go_upto_region 11 with (fail)
    refine start_ (n := 8) (S := fun w' => w'.cell? ⟨ob, 0, none⟩ = some (.slice zA zn zc)) (ds := []) #[false, false, false, false, false, false, false, false] (by kernel_rfl) rfl rfl cz (fun hHeld => ?_)
    refine pu_ (i := 0) (N := some 71) (v := ?_) (a' := ?_) rfl rfl (by kernel_rfl) (fun _ _ _ h => h) (by rfl) ?_ ?_ ?_
    rotate_left
    · (intro w'; go_simp; with_reducible rfl)
    rotate_left
    · (simp only [put_s, List.set, i64_w, i32_w]; rfl)
    refine pu_ (i := 1) (N := some 72) (v := ?_) (a' := ?_) rfl rfl (by kernel_rfl) (fun _ _ _ h => h) (by rfl) ?_ ?_ ?_
    rotate_left
    · (intro w'; go_simp; with_reducible rfl)
    rotate_left
    · (simp only [put_s, List.set, i64_w, i32_w]; rfl)
    refine tk_ (i := 2) (N := some 73) (v := ?_) (a' := ?_) rfl rfl (by kernel_rfl) (fun _ _ _ h => h) (by rfl) ?_ hHeld ?_ ?_
    rotate_left
    ·
     intro w' s0
     have q1 := s0
     go_simp
     with_reducible rfl
    rotate_left
    · (simp only [put_s, List.set, i64_w, i32_w]; rfl)
    refine pu_ (i := 3) (N := some 74) (v := ?_) (a' := ?_) rfl rfl (by kernel_rfl) (fun _ _ _ h => h) (by rfl) ?_ ?_ ?_
    rotate_left
    · (intro w'; go_simp; with_reducible rfl)
    rotate_left
    · (simp only [put_s, List.set, i64_w, i32_w]; rfl)
    refine pu_ (i := 4) (N := some 4) (v := ?_) (a' := ?_) rfl rfl (by kernel_rfl) (fun _ _ _ h => h) (by rfl) ?_ ?_ ?_
    rotate_left
    · (intro w'; go_simp; with_reducible rfl)
    rotate_left
    · (simp only [put_s, List.set, i64_w, i32_w]; rfl)
    refine pu_ (i := 5) (N := some 5) (v := ?_) (a' := ?_) rfl rfl (by kernel_rfl) (fun _ _ _ h => h) (by rfl) ?_ ?_ ?_
    rotate_left
    · (intro w'; go_simp; with_reducible rfl)
    rotate_left
    · (simp only [put_s, List.set, i64_w, i32_w]; rfl)
    refine pu_ (i := 6) (N := some 6) (v := ?_) (a' := ?_) rfl rfl (by kernel_rfl) (fun _ _ _ h => h) (by rfl) ?_ ?_ ?_
    rotate_left
    · (intro w'; go_simp; with_reducible rfl)
    rotate_left
    · (simp only [put_s, List.set, i64_w, i32_w]; rfl)
    refine pu_ (i := 7) (N := some 7) (v := ?_) (a' := ?_) rfl rfl (by kernel_rfl) (fun _ _ _ h => h) (by rfl) ?_ ?_ ?_
    rotate_left
    · (intro w'; go_simp; with_reducible rfl)
    rotate_left
    · (simp only [put_s, List.set, i64_w, i32_w]; rfl)
    refine done_ (by kernel_rfl) ?_
    go_wp2_with fail
    refine bodyPost_ret (v := .tuple #[pt gs, pt g, .slice zA zn zc, .bool true]) (by simp [results, Tryz.results30, go_sem]) rfl (HF.out _ (Kp.drew (Kp.refl _ _ _)))
  ·
   have dl1 : decide ((k : Int) < (xs.length : Int)) = false := by simp; omega
   obtain ⟨zA, zn, zc⟩ := z
   have cz := Blk.cell (i := 0) sh.1 rfl
   unfold Sl.enc at cz
   have HF := Lib.hid (fun (W : World) (hk : Kp (fun _ => False) wr own' W own') => (show FoundP w (.returned (.tuple #[pt gs, pt g, .slice zA zn zc, .bool true])) W from ⟨N, k, g, gs, ga, S, own', D, ⟨zA, zn, zc⟩, rfl, by omega, by omega, hk60, M.keep hk (fun q => q) (fun _ _ _ q => q), G, C, gn, tn, sh.2.2.1.keep strK_K (by decide) hk (fun q => q), sh.2.2.2, kp.trans (hk.mono (fun _ h => h.elim))⟩))
   clear M G C gn tn sh kp hb
   go_upto_region 11 with (fail)
   refine start_ (n := 8) (S := fun w' => w'.cell? ⟨ob, 0, none⟩ = some (.slice zA zn zc)) (ds := []) #[false, false, false, false, false, false, false, false] (by kernel_rfl) rfl rfl cz (fun hHeld => ?_)
   refine pu_ (i := 0) (N := some 71) (v := ?_) (a' := ?_) rfl rfl (by kernel_rfl) (fun _ _ _ h => h) (by rfl) ?_ ?_ ?_
   rotate_left
   · (intro w'; go_simp; with_reducible rfl)
   rotate_left
   · (simp only [put_s, List.set, i64_w, i32_w]; rfl)
   refine pu_ (i := 1) (N := some 72) (v := ?_) (a' := ?_) rfl rfl (by kernel_rfl) (fun _ _ _ h => h) (by rfl) ?_ ?_ ?_
   rotate_left
   · (intro w'; go_simp; with_reducible rfl)
   rotate_left
   · (simp only [put_s, List.set, i64_w, i32_w]; rfl)
   refine tk_ (i := 2) (N := some 73) (v := ?_) (a' := ?_) rfl rfl (by kernel_rfl) (fun _ _ _ h => h) (by rfl) ?_ hHeld ?_ ?_
   rotate_left
   ·
    intro w' s0
    have q1 := s0
    go_simp
    with_reducible rfl
   rotate_left
   · (simp only [put_s, List.set, i64_w, i32_w]; rfl)
   refine pu_ (i := 3) (N := some 74) (v := ?_) (a' := ?_) rfl rfl (by kernel_rfl) (fun _ _ _ h => h) (by rfl) ?_ ?_ ?_
   rotate_left
   · (intro w'; go_simp; with_reducible rfl)
   rotate_left
   · (simp only [put_s, List.set, i64_w, i32_w]; rfl)
   refine pu_ (i := 4) (N := some 4) (v := ?_) (a' := ?_) rfl rfl (by kernel_rfl) (fun _ _ _ h => h) (by rfl) ?_ ?_ ?_
   rotate_left
   · (intro w'; go_simp; with_reducible rfl)
   rotate_left
   · (simp only [put_s, List.set, i64_w, i32_w]; rfl)
   refine pu_ (i := 5) (N := some 5) (v := ?_) (a' := ?_) rfl rfl (by kernel_rfl) (fun _ _ _ h => h) (by rfl) ?_ ?_ ?_
   rotate_left
   · (intro w'; go_simp; with_reducible rfl)
   rotate_left
   · (simp only [put_s, List.set, i64_w, i32_w]; rfl)
   refine pu_ (i := 6) (N := some 6) (v := ?_) (a' := ?_) rfl rfl (by kernel_rfl) (fun _ _ _ h => h) (by rfl) ?_ ?_ ?_
   rotate_left
   · (intro w'; go_simp; with_reducible rfl)
   rotate_left
   · (simp only [put_s, List.set, i64_w, i32_w]; rfl)
   refine pu_ (i := 7) (N := some 7) (v := ?_) (a' := ?_) rfl rfl (by kernel_rfl) (fun _ _ _ h => h) (by rfl) ?_ ?_ ?_
   rotate_left
   · (intro w'; go_simp; with_reducible rfl)
   rotate_left
   · (simp only [put_s, List.set, i64_w, i32_w]; rfl)
   refine done_ (by kernel_rfl) ?_
   go_wp2_with fail
   refine bodyPost_ret (v := .tuple #[pt gs, pt g, .slice zA zn zc, .bool true]) (by simp [results, Tryz.results30, go_sem]) rfl (HF.out _ (Kp.drew (Kp.refl _ _ _)))
end Go.Proofs.YtmofiicjaldmiaaGreatDoor.SxE
end
section
namespace Go.Proofs.YtmofiicjaldmiaaGreatDoor.SxF
open Go.RowKit Go.Shelf YtmofiicjaldmiaaGreatDoorW.PrintWords YtmofiicjaldmiaaGreatDoorW.PrintLast SvA SvB SvC SvD SvE SvF SvG SvH SvI SvJ SvK SvL SvM SvN SvO SvP SvQ SvR SvS SvT SvU SvV SvW SvX SvY SvZ SwA SwB SwC SwD SwE SwF SwG SwI SwJ SwK SwH SwL SwM SwN SwO SwP SwQ SwR SwS SwT SwX SxA
set_option linter.unusedVariables false
set_option linter.unusedSimpArgs false
open Go.Lib
def ImgP (w : World) (xs : List Int) (e : Ending) (w' : World) : Prop := ∃ (gb : Nat) (cur : Array Value), e = .returned (.slice (some ⟨gb, 0, none⟩) xs.length xs.length) ∧ w.heap.size ≤ gb ∧ w'.heap[gb]? = some (.cells cur 5 (0, 0)) ∧ xs.length ≤ cur.size ∧ BytesAt w' (some ⟨gb, 0, none⟩) xs.length xs ∧ Below w.heap.size w w'
set_option maxRecDepth 100000 in
set_option maxHeartbeats 1000000 in
theorem image0_ok (w : World) (own : Nat → Nat) (t g : Nat) (b : BS) (H : StA w own t g b) (hp : b.pend = []) (hz : b.safe.length ≤ 140737488350000) (hz0 : 0 < b.safe.length) : Calls Tryz.prog 31 #[pt g] w (ImgP w b.safe) := by
 obtain ⟨zs, zp, ps, hg, hb, hs, hpe, hd⟩ := H
 have hzl := (ow_len hs).1
 have hpl : ps.length = b.pend.length := hd.1
 have hpn := (ow_len hpe).1
 rw [hp] at hpl
 have hC := (ow_len hs).2.2
 obtain ⟨zA, zn, zc⟩ := zs
 dsimp only at hzl hC
 subst hzl
 obtain ⟨pA, pn, pc⟩ := zp
 obtain rfl : pn = 0 := by have := hpn; dsimp only at this; rw [← this]; exact hpl
 have c0 : w.cell? ⟨g, 0, none⟩ = some (.slice zA b.safe.length zc) := Blk.cell (i := 0) hb rfl
 have HB := Lib.hid hb
 have HC := Lib.hid (fun W h => clone_ok zA b.safe zc W h (by omega))
 have HX := Lib.hid hC
 clear hg hb hs hpe hd hC hpn hpl
 go_enter Tryz.func31, Tryz.ntmps31
 go_wp2_with (go_at_call 62; (refine Calls.mono (HC.out _ HX.out) ?_); rintro e w1 ⟨v, rfl, ho, hb1⟩; have c1 : w1.cell? ⟨g, 1, none⟩ = some (.slice pA 0 pc) := Blk.cell (i := 1) (HB.out.below hb1) rfl; have HO := Lib.hid (And.intro ho hb1); clear ho hb1)
 go_loopw [16] (fun i wr => i = .int .i64 0 ∧ wr = w1) (fun _ _ => 0)
 case atStart => exact ⟨rfl, rfl⟩
 case round =>
  obtain ⟨rfl, rfl⟩ := hrel
  obtain ⟨ho, hb1⟩ := HO.out
  obtain ⟨B, m, rfl, h2, h1⟩ := Kd.R_reads ho
  have hB := (Kd.R_bound ho).1
  have hcur := ow_new (own := fun _ => 2) (s := ⟨B, b.safe.length, m⟩) 2 ho
  obtain ⟨gb, hgb⟩ := ow_head hcur hz0
  injection hgb with hgb
  subst hgb
  obtain ⟨cur, k1, k2, k3⟩ := ow_cur hcur
  have HF := Lib.hid (show ImgP w b.safe (.returned (.slice (some ⟨gb, 0, none⟩) b.safe.length b.safe.length)) wr from ⟨gb, cur, rfl, (hB gb rfl).2.1, k1, by rw [k2]; show _ ≤ m * 1; omega, h1, hb1⟩)
  clear ho hb1 h1 hB hcur k1 k2 k3 HO
  go_wp2_with (go_at_call 64; (refine Calls.mono (clip_ok _ _ _ _ h2) ?_); rintro e w2 ⟨rfl, rfl⟩)
  go_ret
  exact HF.out
end Go.Proofs.YtmofiicjaldmiaaGreatDoor.SxF
end
section
namespace Go.Proofs.YtmofiicjaldmiaaGreatDoor.SyG
open Go.RowKit Go.Shelf YtmofiicjaldmiaaGreatDoorW.PrintWords YtmofiicjaldmiaaGreatDoorW.PrintLast SvA SvB SvC SvD SvE SvF SvG SvH SvI SvJ SvK SvL SvM SvN SvO SvP SvQ SvR SvS SvT SvU SvV SvW SvX SvY SvZ SwA SwB SwC SwD SwE SwF SwG SwI SwJ SwK SwH SwL SwM SwN SwO SwP SwQ SwR SwS SwT SwX SwY SxA SyA SyB SyC SwV SxH SyD SyE SyF SxB SxC SxD SxE SxF
set_option linter.unusedVariables false
set_option linter.unusedSimpArgs false
open Go.Lib
set_option maxRecDepth 100000 in
set_option maxHeartbeats 1000000 in
theorem of_ok (w : World) (A : Option Addr) (c n m : Nat) (xs : List Int) (hl : xs.length = n) (hx : BytesAt w A n xs) (hn : n = 512 * m) (h1 : 1 ≤ m) (h2 : m ≤ 4096) : Calls Tryz.prog 35 #[.slice A n c] w (SvH.NewP w xs) := by
 have HC := Lib.hid (clone_ok A xs c w (by rw [hl]; exact hx) (by omega))
 rw [hl] at HC
 have d0 : ((n : Int) == 0) = false := by simp; omega
 have d1 : decide ((n : Int) = 0) = false := by simp; omega
 have d2 : (Int.tmod (n : Int) 512) = 0 := by rw [Int.tmod_eq_emod_of_nonneg (by omega)]; omega
 have d3 : decide (2097152 < (n : Int)) = false := by simp; omega
 clear hx hn hl
 go_enter Tryz.func35, Tryz.ntmps35
 go_wp2_with (go_at_call 62; refine Calls.mono HC.out ?_; rintro e w1 ⟨v, rfl, ho, hb⟩; obtain ⟨B1, c1, hv, _, _⟩ := Kd.R_reads ho; subst hv; have HO := Lib.hid (And.intro ho hb); clear ho hb)
 go_ret2
 exact new_end HO.out.1 HO.out.2 rfl
theorem Open_fine (w : World) (own : Nat → Nat) (t gs : Nat) (b : BS) (br : Value) (H : StA w own t gs b) (ht : 100 ≤ t) (hS : BOk b) (hn : b.n < 2 ^ 18) (hp : b.pend.length < 2 ^ 30) (hgl : GL w own br) (hbr : ∃ ty v, br = .iface ty v) (S : SV) (ho : openS b = .fine S) :
  Calls Tryz.prog 17 #[pt gs] w fun e w' => ∃ g own' ga, e = .returned (.tuple #[pt g, .int .i64 0]) ∧ w.heap.size ≤ g ∧ SvMem w' own' t g gs ga S ∧ Kp (k20 t) w own w' own' := by
 have h1 : Kp (fun _ => False) w own (w.alloc (.cells #[pt gs, .pointer none, .pointer none, .pointer none, .pointer none, .pointer none, .pointer none, .pointer none, .pointer none, .bool false] 93)) (tagged w own (t + 3)) := Kp.below (ba _) _
 have h2 := open_ok _ (tagged w own (t + 3)) t w.heap.size gs b br (H.keep h1 (fun q => q) (fun q => q) (fun q => q) (fun q => q)) ht (tagged_new (Nat.le_refl _)) (blkNew rfl) hS hn hp (hgl.keep h1 (fun q => q)) hbr
 rw [ho] at h2
 have HO := Lib.hid h2
 have HK := Lib.hid h1
 clear h1 h2 H ho
 go_enter Tryz.func17, Tryz.ntmps17
 go_wp2_with (first | (go_at_call 48; refine Calls.mono HO.out ?_; rintro e w1 ⟨rfl, own', ga, hM, hK⟩) | (go_at_call 47; refine Calls.mono (code_nil _) ?_; rintro e w2 ⟨rfl, hb⟩))
 go_ret2
 exact ⟨_, _, _, rfl, Nat.le_refl _, hM.below hb, ((HK.out.mono (fun _ h => h.elim)).trans hK).trans (Kp.below hb 0)⟩
theorem fresh_read {b : BS} (hp : b.pend = []) (k : Nat) : (BS.fresh b.safe).read k = b.read k := by
 unfold BS.read
 rw [hp]
 rfl
theorem GC.fresh {b : BS} {a : AR} {D : ByteArray → List Int} (hp : b.pend = []) (h : GC b a D) : GC (BS.fresh b.safe) a D :=
  ⟨fun e he => GoodE.reads (h.ge e he) rfl (fresh_read hp _) (fun x _ => fresh_read hp _), fun k hk hf => by rw [fresh_read hp]; exact h.fr k hk hf⟩
theorem scanU_good {S : SV} {n m : Nat} {D : Nat → ByteArray → List Int} (hg : GS S n m) (hc : CS S D) (h8 : 8 ≤ n) (ht : TN S) : ∀ k, k ≤ 8 → scanU (BS.fresh S.b.safe) k = some (fun i => if i < k then inOrd (S.ar i).ents (S.ar i).heads else []) := by
 intro k
 induction k with
 | zero => intro _; unfold scanU; simp
 | succ k ih =>
  intro hk
  have G := hg.ar k (by omega)
  have hbn : (BS.fresh S.b.safe).n = n := hg.bn
  have ha : arOf (BS.fresh S.b.safe) k [] = { S.ar k with ents := [] } := by
   unfold arOf
   rw [hbn]
   cases hs : S.ar k with
   | mk ten frm sec heads ents =>
    have h1 := G.ten
    have h2 := G.frm
    have h3 := G.sec
    have h4 := G.hds
    rw [hs] at h1 h2 h3 h4
    dsimp only at h1 h2 h3 h4
    rw [h1, h2, h3, h4]
  have hsc : scanA (BS.fresh S.b.safe) k = some (inOrd (S.ar k).ents (S.ar k).heads, secsOf (inOrd (S.ar k).ents (S.ar k).heads)) := by
   unfold scanA
   rw [ha, hbn, ← G.hds]
   exact scan_good G (GC.fresh hg.pend (hc k (by omega))) hg.hn h8 (by omega) (ht k (by omega)) _ (Nat.le_refl _)
  unfold scanU
  rw [ih (by omega), hsc]
  simp only [Option.bind_some, Option.map_some, Option.some.injEq]
  funext i
  by_cases e : i = k
  ·
   subst e
   rw [if_pos rfl, if_pos (by omega)]
  ·
   rw [if_neg e]
   by_cases h : i < k
   · rw [if_pos h, if_pos (by omega)]
   · rw [if_neg h, if_neg (by omega)]
theorem perm_ar {S : SV} {n m i : Nat} (hg : GS S n m) (hi : i < 8) : (inOrd (S.ar i).ents (S.ar i).heads).Perm (S.ar i).ents := inOrd_perm (hg.ar i hi).ad (hg.ar i hi).ar
theorem GA.perm {n i m : Nat} {a : AR} {es : List EN} (h : GA n i m a) (hp : es.Perm a.ents) : GA n i m { a with ents := es } :=
  ⟨h.ten, h.frm, h.sec, h.hds, ((hp.map _).nodup_iff).2 h.nd, ((hp.map _).nodup_iff).2 h.ad, fun e he => h.ar e (hp.mem_iff.1 he), (List.Perm.nodup_iff (hp.flatMap_right _)).2 h.sd, fun e he => h.sr e (hp.mem_iff.1 he), fun e he => h.ok e (hp.mem_iff.1 he)⟩
theorem newU_good {S0 : SV} (h : ∀ i, i < 8 → ((S0.ar i).ents.map (·.hd.name)).Nodup) : ∀ k, k ≤ 8 → newU S0 k = (S0, false, true) := by
 intro k
 induction k with
 | zero => intro _; rfl
 | succ k ih =>
  intro hk
  have h1 := ih (by omega)
  have h2 : newGo ((newU S0 k).1.ar k).ents ((newU S0 k).1.ar k).frm ((newU S0 k).1.ar k).ents (newU S0 k).1.b [] false = ((newU S0 k).1.b, ((newU S0 k).1.ar k).ents, false, true) := by
   rw [newGo_none]
   · simp
   ·
    intro e he
    rw [h1] at he ⊢
    exact older_none (h k (by omega)) he
  rw [newU_succ S0 k (by rw [h1]) h2, if_pos rfl, h1]
  dsimp only
  have e : SV.setE (SV.setB S0 S0.b) k (S0.ar k).ents = S0 := by
   unfold SV.setE SV.setB
   dsimp only
   congr 1
   funext j
   by_cases hj : j = k
   · subst hj; simp
   · simp [hj]
  rw [e]
  rfl
theorem openS_good {S : SV} {n m : Nat} {D : Nat → ByteArray → List Int} (hg : GS S n m) (hc : CS S D) (h8 : 8 ≤ n) (ht : TN S) : ∃ S', openS (BS.fresh S.b.safe) = .fine S' ∧ GS S' n m ∧ CS S' D ∧ S'.b = BS.fresh S.b.safe ∧ ∀ i, i < 8 → (S'.ar i).ents.Perm (S.ar i).ents := by
 have hbn : (BS.fresh S.b.safe).n = n := hg.bn
 have hu := scanU_good hg hc h8 ht 8 (by omega)
 have hfx : ∀ i, i < 8 → (SVof (BS.fresh S.b.safe) (fun i => if i < 8 then inOrd (S.ar i).ents (S.ar i).heads else [])).ar i = { S.ar i with ents := inOrd (S.ar i).ents (S.ar i).heads } := by
  intro i hi
  have G := hg.ar i hi
  show arOf (BS.fresh S.b.safe) i (if i < 8 then _ else _) = _
  rw [if_pos hi]
  unfold arOf
  rw [hbn]
  cases hs : S.ar i with
  | mk ten frm sec heads ents =>
   have h1 := G.ten
   have h2 := G.frm
   have h3 := G.sec
   have h4 := G.hds
   rw [hs] at h1 h2 h3 h4
   dsimp only at h1 h2 h3 h4 ⊢
   rw [h1, h2, h3, h4]
 have hga : ∀ i, i < 8 → GA n i m ((SVof (BS.fresh S.b.safe) (fun i => if i < 8 then inOrd (S.ar i).ents (S.ar i).heads else [])).ar i) := fun i hi => by
  rw [hfx i hi]
  exact GA.perm (hg.ar i hi) (perm_ar hg hi)
 have hn := newU_good (fun i hi => (hga i hi).nd) 8 (by omega)
 refine ⟨SVof (BS.fresh S.b.safe) (fun i => if i < 8 then inOrd (S.ar i).ents (S.ar i).heads else []), ?_, ⟨rfl, rfl, rfl, ⟨⟨hg.bok.fit.hz, by show ([] : List (Int × List Int)).length < _; simp⟩, (by intro q hq; cases hq), hg.bok.us, (by intro q hq; cases hq), hg.bok.len⟩, hbn, hg.hn, hga⟩, fun i hi => ?_, rfl, fun i hi => ?_⟩
 ·
  unfold openS
  rw [hu]
  dsimp only
  rw [hn]
  rfl
 ·
  rw [hfx i hi]
  have h := GC.fresh hg.pend (hc i hi)
  exact ⟨fun e he => GoodE.reads (h.ge e (mem_inOrd he).1) rfl rfl (fun x _ => rfl), fun k hk hf => h.fr k hk (fun e he q => hf e ((perm_ar hg hi).mem_iff.2 he) q)⟩
 ·
  rw [hfx i hi]
  exact perm_ar hg hi
end Go.Proofs.YtmofiicjaldmiaaGreatDoor.SyG
end
section
namespace Go.Proofs.YtmofiicjaldmiaaGreatDoor.SyH
open Go.RowKit Go.Shelf YtmofiicjaldmiaaGreatDoorW.PrintWords YtmofiicjaldmiaaGreatDoorW.PrintLast SvA SvB SvC SvD SvE SvF SvG SvH SvI SvJ SvK SvL SvM SvN SvO SvP SvQ SvR SvS SvT SvU SvV SvW SvX SvY SvZ SwA SwB SwC SwD SwE SwF SwG SwI SwJ SwK SwH SwL SwM SwN SwO SwP SwQ SwR SwS SwT SwX SwY SxA SyA SyB SyC SwV SxH SyD SyE SyF SxB SxC SxD SxE SxF SyG
set_option linter.unusedVariables false
set_option linter.unusedSimpArgs false
open Go.Lib
theorem hasS_perm {S T : SV} {t : Nat} (h : (S.ar t).ents.Perm (T.ar t).ents) (x : ByteArray) : hasS S t x = hasS T t x := by
 rw [Bool.eq_iff_iff, hasS_iff, hasS_iff]
 constructor
 ·
  rintro ⟨e, he, hn⟩
  exact ⟨e, h.mem_iff.1 he, hn⟩
 ·
  rintro ⟨e, he, hn⟩
  exact ⟨e, h.mem_iff.2 he, hn⟩
theorem vw_perm {S T : SV} (h : ∀ i, i < 8 → (S.ar i).ents.Perm (T.ar i).ents) (D : Nat → ByteArray → List Int) : vwP S D 8 = vwP T D 8 := by
 refine vw_ext (vwP_len _ _ _) (fun t n ht hn => ?_)
 rw [vwP_at T D 8 t n hn ht]
 unfold cellV
 rw [hasS_perm (h t ht)]
theorem GN.perm {S T : SV} (h : ∀ i, i < 8 → (S.ar i).ents.Perm (T.ar i).ents) (hn : GN T) : GN S := fun t ht e he => hn t ht e ((h t ht).mem_iff.1 he)
set_option maxRecDepth 100000 in
set_option maxHeartbeats 4000000 in
theorem kept_walk (a0 : Int) (A : Option Addr) (c : Nat) (xs : List AC) (h0 : i64s a0) (w : World) (hxs : AcAt w A xs) (hc : xs.length ≤ c) (hl : xs.length ≤ 9223372036854775807) (br : Value) (hbr : ∃ ty v, br = .iface ty v) (hgl : w.cell? ⟨0, 0, none⟩ = some br) :
  Calls Tryz.prog 9 #[.int .i64 a0, .slice A xs.length c] w fun e w' => e = .returned (.bool true) ∧ Below w.heap.size w w' := by
 have HF := Lib.hid (founded_ok a0 A c xs h0 w hxs hc hl)
 have HGL := Lib.hid (show GL w (fun _ => 0) br from ⟨rfl, hgl⟩)
 have HBR := Lib.hid hbr
 clear hxs hgl hbr
 go_enter Tryz.func9, Tryz.ntmps9
 go_upto_region 4 with (go_at_call 30; (with_reducible refine Calls.mono HF.out ?_); rintro e w1 ⟨N, k, g, gs, ga, S, o1, D, ⟨zA, zn, zc⟩, rfl, hN1, hN2, hk, M, G, C, gn, tn, hz, hzA, kp⟩; have HALL := Lib.hid (And.intro M (And.intro G (And.intro C (And.intro gn (And.intro tn (And.intro hz (And.intro hzA kp))))))); clear M G C gn tn hz hzA kp; unfold Sl.enc)
 obtain ⟨M, G, C, gn, tn, hz, ⟨zb, hzA⟩, kp⟩ := HALL.out
 try dsimp only at hzA
 subst hzA
 have hb1 : Below w.heap.size w w1 := kp_below kp (by intro h; rcases h with h | h; (have := h.1; omega); omega)
 have hbn : S.b.safe.length / 512 = N := G.bn
 obtain ⟨S2, hop, G2, C2, hb2, hpm⟩ := openS_good G C (by omega) tn
 have hvw := vw_perm hpm D
 have gn2 := GN.perm hpm gn
 have hgl1 : GL w1 o1 br := HGL.out.keep kp (by intro h; rcases h with h | h; (have := h.1; omega); omega)
 have hIM : ∀ (W0 : World) (o : Nat → Nat) (M : SvMem W0 o 100 g gs ga S) (W : World), Below W0.heap.size W0 W → Calls Tryz.prog 31 #[pt gs] W (ImgP W S.b.safe) := fun W0 o M W h => image0_ok W _ 100 gs S.b (M.below h).st G.pend (by have := G.bok.fit.hz; omega) (by omega)
 have hPE : ∀ (W0 : World) (o : Nat → Nat) (M : SvMem W0 o 100 g gs ga S) (W : World), Below W0.heap.size W0 W → Calls Tryz.prog 34 #[pt gs] W fun e w' => e = .returned (.int .i64 0) ∧ W = w' := fun W0 o M W h => by
  have := SvH.pending_ok W _ 100 gs S.b (M.below h).st
  rwa [G.pend] at this
 have hlen : S.b.safe.length = 512 * N := by
  have := G.bok.len
  omega
 have hOF : ∀ (W : World) (A : Option Addr) (c : Nat), BytesAt W A S.b.safe.length S.b.safe → Calls Tryz.prog 35 #[.slice A S.b.safe.length c] W (SvH.NewP W S.b.safe) := fun W A c hB => of_ok W A c _ N _ rfl hB hlen (by omega) (by omega)
 have hOP : ∀ (W : World) (o : Nat → Nat) (gs2 : Nat) (H : StA W o 200 gs2 (BS.fresh S.b.safe)) (hg : GL W o br), Calls Tryz.prog 17 #[pt gs2] W fun e w' => ∃ g own' ga, e = .returned (.tuple #[pt g, .int .i64 0]) ∧ W.heap.size ≤ g ∧ SvMem w' own' 200 g gs2 ga S2 ∧ Kp (k20 200) W o w' own' := fun W o gs2 H hg => Open_fine W o 200 gs2 _ br H (by omega) (by rw [← hb2]; exact G2.bok) (by rw [← hb2, G2.bn]; omega) (by show (0 : Nat) < 2 ^ 30; omega) hg HBR.out S2 hop
 have hVW : ∀ (W : World) (o : Nat → Nat) (g2 gs2 : Nat) (ga2 : Nat → Nat) (H : SvMem W o 200 g2 gs2 ga2 S2), Calls Tryz.prog 21 #[pt g2] W (ViewP W (vwP S D 8)) := fun W o g2 gs2 ga2 H => by
  rw [← hvw]
  exact view_ok W o 200 g2 gs2 ga2 S2 H G2 C2 (by omega) gn2
 have hIN : ∀ (W0 : World) (o : Nat → Nat) (g2 gs2 : Nat) (ga2 : Nat → Nat) (H : SvMem W0 o 200 g2 gs2 ga2 S2) (W : World), Below W0.heap.size W0 W → Calls Tryz.prog 31 #[pt gs2] W (ImgP W S.b.safe) := fun W0 o g2 gs2 ga2 H W h => by
  have := image0_ok W _ 200 gs2 S2.b (H.below h).st G2.pend (by have := G2.bok.fit.hz; omega) (by rw [hb2]; show 0 < S.b.safe.length; omega)
  rwa [hb2] at this
 have hvl : (vwP S D 8).length = 48 := vwP_len _ _ _
 have hzn : (vwP S D 8).length = zn := hz.1.1
 have hsh : ∀ (W : World) (o : Nat → Nat) (h : Rd strK W o 0 ⟨some ⟨zb, 0, none⟩, zn, zc⟩ (vwP S D 8)), SsAt W (some ⟨zb, 0, none⟩) (vwP S D 8) := fun W o h j x hx => by
  have hj := (List.getElem?_eq_some_iff.1 hx).1
  obtain ⟨ad, e1, e2⟩ := sc_at h.1 j (by dsimp only; omega) x hx
  injection e1 with e1
  subst e1
  rw [Go.Proofs.YtmofiicjaldmiaaGreatDoorW.PrintWords.add_plain] at e2
  exact ⟨zb, rfl, e2⟩
 generalize vwP S D 8 = vs at *
 subst hzn
 clear hvw hop hpm gn2 G2 C2 hb2
 generalize S.b.safe = im at *
 have HIM := Lib.hid hIM
 have HPE := Lib.hid hPE
 have HOF := Lib.hid hOF
 have HOP := Lib.hid hOP
 have HVW := Lib.hid hVW
 have HIN0 := Lib.hid hIN
 have HVL := Lib.hid hvl
 have HSH := Lib.hid hsh
 have HG1 := Lib.hid hgl1
 have HM1 := Lib.hid (And.intro M (And.intro hz kp))
 clear hIM hPE hOF hOP hVW hIN hvl hsh hb1 M G C gn tn hz kp hbn HALL hgl1 hlen
 go_upto_region 8 with (first
  | (go_at_call 31; (refine Calls.mono (HIM.out w1 o1 HM1.out.1 _ (Below.refl _ _)) ?_); rintro e w2 ⟨gb, cur, rfl, i1, i2, i3, i4, i5⟩; have HI2 := Lib.hid (And.intro i4 i5); clear i1 i2 i3 i4 i5)
  | (go_at_call 35; (refine Calls.mono (HOF.out _ _ _ HI2.out.1) ?_); rintro e w3 ⟨gs2, rfl, n1, n2, n3⟩; obtain ⟨o3, st3, k3⟩ := n3 (tagged w1 o1 0) 200; have H3 := Lib.hid (And.intro st3 k3); clear n1 n2 n3 st3 k3)
  | (go_at_call 17; (refine Calls.mono (HOP.out w3 o3 gs2 H3.out.1 ((HG1.out.keep (Kp.below (ts := fun _ => False) HI2.out.2 0) (fun q => q)).keep H3.out.2 (fun q => q))) ?_); rintro e w4 ⟨g2, o4, ga2, rfl, _, M4, k4⟩; have H4 := Lib.hid (And.intro M4 k4); have HM4 := Lib.hid (((HM1.out.1.below HI2.out.2).keep H3.out.2 (fun q => q) (fun _ _ _ q => q)).keep k4 (fun h => by have := h.1; omega) (fun q h1 h2 h => by have := h.1; omega)); clear M4 k4)
  | (go_at_call 34; (refine Calls.mono (HPE.out w4 o4 HM4.out w4 (Below.refl _ _)) ?_); rintro e w' ⟨rfl, rfl⟩))
 have hz4 := ((HM1.out.2.1.keep strK_K (by decide) (Kp.below (ts := fun _ => False) HI2.out.2 0) (fun q => q)).keep strK_K (by decide) H3.out.2 (fun q => q)).keep strK_K (by decide) H4.out.2 (fun h => by have := h.1; omega)
 have hk4 : Kp (fun q => kst 100 q ∨ k20 200 q) w (fun _ => 0) w4 o4 := (((HM1.out.2.2.mono (fun q h => .inl h)).trans (Kp.below (ts := fun q => kst 100 q ∨ k20 200 q) HI2.out.2 0)).trans (H3.out.2.mono (fun q h => h.elim))).trans (H4.out.2.mono (fun q h => .inr h))
 have HB4 := Lib.hid (kp_below hk4 (by intro h; rcases h with (h | h) | h; (have := h.1; omega); omega; (have := h.1; omega)))
 have HIM4 := Lib.hid (HIM.out w4 o4 HM4.out)
 have HIN := Lib.hid (HIN0.out w4 o4 g2 gs2 ga2 H4.out.1)
 have HVW4 := Lib.hid (HVW.out w4 o4 g2 gs2 ga2 H4.out.1)
 have HS4 := Lib.hid (HSH.out w4 o4 hz4)
 clear hz4 hk4 HIM HPE HOF HOP HVW HIN0 HSH HM1 H3 H4 HM4 HI2 HG1
 obtain ⟨ims, he⟩ : ∃ ims, strOfNums im = ims := ⟨_, rfl⟩
 have HST := Lib.hid he
 clear he
 have dv : decide (vs = vs) = true := by simp
 go_upto_region 10 with (first
  | (go_at_call 21; (refine Calls.mono HVW4.out ?_); rintro e w6 ⟨⟨vA, vn, vc⟩, vo, rfl, z1, z2, z3⟩; have HX6 := Lib.hid (ss_of z1); obtain rfl : vs.length = vn := (ow_len z1).1; have HB6 := Lib.hid z3; have HS6 := Lib.hid (HS4.out.below HB6.out); clear z1 z2 z3; unfold Sl.enc)
  | (go_at_call 33; (with_reducible refine Calls.mono (same_ok _ _ _ _ _ vs vs HX6.out HS6.out (by have := HVL.out; omega) (by have := HVL.out; omega)) ?_); rintro e w7 ⟨rfl, hb7⟩; have HB7 := Lib.hid (HB6.out.trans (hb7.mono HB6.out.size)); clear hb7))
 refine start_ (n := 14) (S := fun _ => True) (ds := []) #[false, false, false, false, false, false, false, false, false, false, false, false, false, false] (by kernel_rfl) rfl rfl trivial (fun hHeld => ?_)
 refine pure_ (i := 0) (N := some 64) (v := ?_) (a' := ?_) #[true, false, false, false, false, false, false, false, false, false, false, false, false, false] rfl rfl (by kernel_rfl) (fun _ _ _ h => h) (Or.inl ⟨by rfl, ?_⟩) ?_ ?_
 rotate_left
 · (intro w'; go_simp; with_reducible rfl)
 rotate_left
 · (simp only [put_s, List.set, i64_w, i32_w]; rfl)
 refine pure_ (i := 1) (N := some 65) (v := ?_) (a' := ?_) #[true, true, false, false, false, false, false, false, false, false, false, false, false, false] rfl rfl (by kernel_rfl) (fun _ _ _ h => h) (Or.inl ⟨by rfl, ?_⟩) ?_ ?_
 rotate_left
 · (intro w'; go_simp; with_reducible rfl)
 rotate_left
 · (simp only [put_s, List.set, i64_w, i32_w]; rfl)
 refine pure_ (i := 2) (N := some 66) (v := ?_) (a' := ?_) #[true, true, true, false, false, false, false, false, false, false, false, false, false, false] rfl rfl (by kernel_rfl) (fun _ _ _ h => h) (Or.inl ⟨by rfl, ?_⟩) ?_ ?_
 rotate_left
 · (intro w'; go_simp; with_reducible rfl)
 rotate_left
 · (simp only [put_s, List.set, i64_w, i32_w]; rfl)
 refine pure_ (i := 3) (N := some 67) (v := ?_) (a' := ?_) #[true, true, true, true, false, false, false, false, false, false, false, false, false, false] rfl rfl (by kernel_rfl) (fun _ _ _ h => h) (Or.inl ⟨by rfl, ?_⟩) ?_ ?_
 rotate_left
 · (intro w'; go_simp; with_reducible rfl)
 rotate_left
 · (simp only [put_s, List.set, i64_w, i32_w]; rfl)
 refine pure_ (i := 4) (N := some 68) (v := ?_) (a' := ?_) #[true, true, true, true, true, false, false, false, false, false, false, false, false, false] rfl rfl (by kernel_rfl) (fun _ _ _ h => h) (Or.inl ⟨by rfl, ?_⟩) ?_ ?_
 rotate_left
 · (intro w'; go_simp; with_reducible rfl)
 rotate_left
 · (simp only [put_s, List.set, i64_w, i32_w]; rfl)
 refine pure_ (i := 5) (N := some 69) (v := ?_) (a' := ?_) #[true, true, true, true, true, true, false, false, false, false, false, false, false, false] rfl rfl (by kernel_rfl) (fun _ _ _ h => h) (Or.inl ⟨by rfl, ?_⟩) ?_ ?_
 rotate_left
 · (intro w'; go_simp; with_reducible rfl)
 rotate_left
 · (simp only [put_s, List.set, i64_w, i32_w]; rfl)
 refine pure_ (i := 8) (N := some 72) (v := ?_) (a' := ?_) #[true, true, true, true, true, true, false, false, true, false, false, false, false, false] rfl rfl (by kernel_rfl) (fun _ _ _ h => h) (Or.inl ⟨by rfl, ?_⟩) ?_ ?_
 rotate_left
 · (intro w'; go_simp; with_reducible rfl)
 rotate_left
 · (simp only [put_s, List.set, i64_w, i32_w]; rfl)
 refine one_ (i := 6) (N := some 70) #[true, true, true, true, true, true, true, false, true, false, false, false, false, false] rfl rfl (by kernel_rfl) (by decide) (fun K hK => ?_)
 refine goes_ Tryz.func31 (by kernel_rfl) rfl #[pt gs2] (by rfl) rfl rfl (by first | rfl | (simp [Act.eval])) ?_
 refine Calls.mono (HIN.out _ HB7.out.drew) ?_
 rintro e w8 ⟨gb8, cur8, rfl, i1, i2, i3, i4, i5⟩
 refine ⟨_, rfl, ?_⟩
 refine hK.out _ _ trivial (fun hHeld => ?_)
 clear hK K
 have hcv8 := conv_str (w := w8) (c := im.length) i4
 rw [HST.out] at hcv8
 have HI8 := Lib.hid (And.intro i4 i5)
 clear i1 i2 i3 i4 i5
 refine norm_ (a' := ?_) ?_ ?_
 rotate_left
 ·
  show Act.put _ (some 70) _ = _
  simp only [put_s, List.set, i64_w, i32_w]
  rfl
 refine join_ 3 #[true, true, true, true, true, true, true, true, true, true, true, false, false, false] (fun (s : Nat) => [(71, .string ims), (73, .slice (some ⟨s, 0, none⟩) im.length im.length), (74, .string ims)]) (fun (s : Nat) w' => BytesAt w' (some ⟨s, 0, none⟩) im.length im ∧ Below w8.heap.size w8 w') ?_ ?_
 rotate_left
 ·
  intro hJ
  refine two_ (i := 7) (j := 9) (Ni := some 71) (Nj := some 73) #[true, true, true, true, true, true, true, true, true, false, false, false, false, false] #[true, true, true, true, true, true, true, false, true, true, false, false, false, false] rfl rfl rfl rfl (by kernel_rfl) (by decide) (by decide) (fun K hK => ?_) (fun K hK => ?_)
  ·
   refine value_ (v := .string ims) (w1 := w8) (by rfl) rfl (by go_simp) ?_
   refine hK.out _ _ trivial (fun hHeld => ?_)
   clear hK K
   refine norm_ (a' := ?_) ?_ ?_
   rotate_left
   ·
    show Act.put _ (some 71) _ = _
    simp only [put_s, List.set, i64_w, i32_w]
    rfl
   refine one_ (i := 9) (N := some 73) #[true, true, true, true, true, true, true, true, true, true, false, false, false, false] rfl rfl (by kernel_rfl) (by decide) (fun K hK => ?_)
   refine goes_ Tryz.func31 (by kernel_rfl) rfl #[pt gs] (by rfl) rfl rfl (by first | rfl | (simp [Act.eval])) ?_
   refine Calls.mono (HIM4.out _ (HB7.out.drew.trans (HI8.out.2.mono HB7.out.size))) ?_
   rintro e w9 ⟨gb9, cur9, rfl, i1, i2, i3, i4, i5⟩
   refine ⟨_, rfl, ?_⟩
   refine hK.out _ _ trivial (fun hHeld => ?_)
   clear hK K
   have HI9 := Lib.hid (And.intro i4 i5)
   clear i1 i2 i3 i4 i5
   refine norm_ (a' := ?_) ?_ ?_
   rotate_left
   ·
    show Act.put _ (some 73) _ = _
    simp only [put_s, List.set, i64_w, i32_w]
    rfl
   have hcv9 := conv_str (w := w9) (c := im.length) HI9.out.1
   rw [HST.out] at hcv9
   refine one_ (i := 10) (N := some 74) #[true, true, true, true, true, true, true, true, true, true, true, false, false, false] rfl rfl (by kernel_rfl) (by decide) (fun K hK => ?_)
   refine value_ (v := .string ims) (w1 := w9) (by rfl) rfl (by go_simp) ?_
   refine hK.out _ _ trivial (fun hHeld => ?_)
   clear hK K
   refine norm_ (a' := ?_) ?_ ?_
   rotate_left
   ·
    show Act.put _ (some 74) _ = _
    simp only [put_s, List.set, i64_w, i32_w]
    rfl
   exact hJ gb9 _ ⟨HI9.out.1, HI9.out.2⟩
  ·
   refine goes_ Tryz.func31 (by kernel_rfl) rfl #[pt gs] (by rfl) rfl rfl (by first | rfl | (simp [Act.eval])) ?_
   refine Calls.mono (HIM4.out _ (HB7.out.drew.trans (HI8.out.2.mono HB7.out.size))) ?_
   rintro e w9 ⟨gb9, cur9, rfl, i1, i2, i3, i4, i5⟩
   refine ⟨_, rfl, ?_⟩
   refine hK.out _ _ trivial (fun hHeld => ?_)
   clear hK K
   have HI9 := Lib.hid (And.intro i4 i5)
   clear i1 i2 i3 i4 i5
   refine norm_ (a' := ?_) ?_ ?_
   rotate_left
   ·
    show Act.put _ (some 73) _ = _
    simp only [put_s, List.set, i64_w, i32_w]
    rfl
   have hcv9 := conv_str (w := w9) (c := im.length) HI9.out.1
   rw [HST.out] at hcv9
   have hcv89 := conv_str (w := w9) (c := im.length) (HI8.out.1.below (B := 0) HI9.out.2)
   rw [HST.out] at hcv89
   refine two_ (i := 7) (j := 10) (Ni := some 71) (Nj := some 74) #[true, true, true, true, true, true, true, true, true, true, false, false, false, false] #[true, true, true, true, true, true, true, false, true, true, true, false, false, false] rfl rfl rfl rfl (by kernel_rfl) (by decide) (by decide) (fun K hK => ?_) (fun K hK => ?_)
   ·
    refine value_ (v := .string ims) (w1 := w9) (by rfl) rfl (by go_simp) ?_
    refine hK.out _ _ trivial (fun hHeld => ?_)
    clear hK K
    refine norm_ (a' := ?_) ?_ ?_
    rotate_left
    ·
     show Act.put _ (some 71) _ = _
     simp only [put_s, List.set, i64_w, i32_w]
     rfl
    refine one_ (i := 10) (N := some 74) #[true, true, true, true, true, true, true, true, true, true, true, false, false, false] rfl rfl (by kernel_rfl) (by decide) (fun K hK => ?_)
    refine value_ (v := .string ims) (w1 := w9) (by rfl) rfl (by go_simp) ?_
    refine hK.out _ _ trivial (fun hHeld => ?_)
    clear hK K
    refine norm_ (a' := ?_) ?_ ?_
    rotate_left
    ·
     show Act.put _ (some 74) _ = _
     simp only [put_s, List.set, i64_w, i32_w]
     rfl
    exact hJ gb9 _ ⟨HI9.out.1, HI9.out.2⟩
   ·
    refine value_ (v := .string ims) (w1 := w9) (by rfl) rfl (by go_simp) ?_
    refine hK.out _ _ trivial (fun hHeld => ?_)
    clear hK K
    refine norm_ (a' := ?_) ?_ ?_
    rotate_left
    ·
     show Act.put _ (some 74) _ = _
     simp only [put_s, List.set, i64_w, i32_w]
     rfl
    refine one_ (i := 7) (N := some 71) #[true, true, true, true, true, true, true, true, true, true, true, false, false, false] rfl rfl (by kernel_rfl) (by decide) (fun K hK => ?_)
    refine value_ (v := .string ims) (w1 := w9) (by rfl) rfl (by go_simp) ?_
    refine hK.out _ _ trivial (fun hHeld => ?_)
    clear hK K
    refine norm_ (a' := ?_) ?_ ?_
    rotate_left
    ·
     show Act.put _ (some 71) _ = _
     simp only [put_s, List.set, i64_w, i32_w]
     rfl
    exact hJ gb9 _ ⟨HI9.out.1, HI9.out.2⟩
 rintro gb9 w9 ⟨j1, j2⟩
 have HJ := Lib.hid j2
 clear j1 j2
 refine norm_ (a' := ?_) ?_ ?_
 rotate_left
 ·
  simp only [putAll, Act.put, List.setIfInBounds_toArray, List.set_cons_zero, List.set_cons_succ]
  rfl
 refine pure_ (i := 11) (N := some 75) (v := ?_) (a' := ?_) #[true, true, true, true, true, true, true, true, true, true, true, true, false, false] rfl rfl (by kernel_rfl) (fun _ _ _ h => h) (Or.inl ⟨by rfl, ?_⟩) ?_ ?_
 rotate_left
 · (intro w'; go_simp; with_reducible rfl)
 rotate_left
 · (simp only [put_s, List.set, i64_w, i32_w]; rfl)
 refine pure_ (i := 12) (N := some 76) (v := ?_) (a' := ?_) #[true, true, true, true, true, true, true, true, true, true, true, true, true, false] rfl rfl (by kernel_rfl) (fun _ _ _ h => h) (Or.inl ⟨by rfl, ?_⟩) ?_ ?_
 rotate_left
 · (intro w'; go_simp; with_reducible rfl)
 rotate_left
 · (simp only [put_s, List.set, i64_w, i32_w]; rfl)
 refine pure_ (i := 13) (N := some 4) (v := ?_) (a' := ?_) #[true, true, true, true, true, true, true, true, true, true, true, true, true, true] rfl rfl (by kernel_rfl) (fun _ _ _ h => h) (Or.inl ⟨by rfl, ?_⟩) ?_ ?_
 rotate_left
 · (intro w'; go_simp; with_reducible rfl)
 rotate_left
 · (simp only [put_s, List.set, i64_w, i32_w]; rfl)
 refine done_ (by kernel_rfl) ?_
 go_wp2_with fail
 go_ret
 exact ⟨ret_bool (by simp), HB4.out.trans (((HB7.out.drew.trans (HI8.out.2.mono HB7.out.size)).trans (HJ.out.mono (Nat.le_trans HB7.out.size HI8.out.2.size))).mono HB4.out.size)⟩
end Go.Proofs.YtmofiicjaldmiaaGreatDoor.SyH
end
section
namespace Go.Proofs.YtmofiicjaldmiaaGreatDoor.SyI
open Go.RowKit Go.Shelf YtmofiicjaldmiaaGreatDoorW.PrintWords YtmofiicjaldmiaaGreatDoorW.PrintLast SvA SvB SvC SvD SvE SvF SvG SvH SvI SvJ SvK SvL SvM SvN SvO SvP SvQ SvR SvS SvT SvU SvV SvW SvX SvY SvZ SwA SwB SwC SwD SwE SwF SwG SwI SwJ SwK SwH SwL SwM SwN SwO SwP SwQ SwR SwS SwT SwX SwY SxA SyA SyB SyC SwV SxH SyD SyE SyF SxB SxC SxD SxE SxF SyG SyH
set_option linter.unusedVariables false
set_option linter.unusedSimpArgs false
open Go.Lib
set_option maxRecDepth 100000 in
theorem brk_of_laid {W : World} (h : laidMetH Tryz.prog [("errors.errorType", Rows.laid_errors_errorType), ("arcade/saves.errBroken", Rows.laid_arcade_saves_errBroken)] W) : ∃ a : Addr, W.cell? ⟨0, 0, none⟩ = some (.iface 250 (.pointer (some a))) := by
 have h' : laidMet Tryz.prog [("arcade/saves.errBroken", Rows.laid_arcade_saves_errBroken)] W ∧ handlesMet Tryz.prog [("errors.errorType", Rows.laid_errors_errorType)] W := h
 obtain ⟨ps, ⟨g, t, cs, fuel, p, q, e1, e2, e3, e4, e5, e6⟩, _, hck⟩ := h'.1
 have eg : Tryz.prog.globalNamed "arcade/saves.errBroken" = some 0 := by kernel_rfl
 obtain rfl : g = 0 := (Option.some.inj (eg.symm.trans e1)).symm
 have et : (Tryz.prog.globals[0]?).map (·.type) = some 96 := by kernel_rfl
 obtain rfl : t = 96 := (Option.some.inj (et.symm.trans e2)).symm
 have hcell : W.cell? ⟨0, 0, none⟩ = cs[0]? := by simpa using World.var?_cell eg e3 0
 have hl : cs[0]? = cs.toList[0]? := by simp
 have hok : ∀ u v, cs.toList = [.iface u v] → Value.okWide Tryz.prog W .any 0 u v := fun u v hcs => by
  have hsz : cs.size = 1 := by rw [← Array.length_toList, hcs]; rfl
  refine (hck 0 0 ?_).2 u v (by rw [hcell, hl, hcs]; rfl)
  rw [e6, hsz]
  exact List.mem_append_left _ (List.mem_append_left _ (by simp [MemPlace.row]))
 obtain ⟨a, s, hcs, _, _, _⟩ := errorString_of_trod (ti := 96) (tp := 250) (te := 269) (ts := 9) (nm := "*errors.errorString") Tryz.underlying96 (fun u hu => typeName_ptr_named (nm := "errors.errorString") (by kernel_rfl) (by kernel_rfl) (by decide) u hu) Tryz.underlying250 Tryz.underlying269 rfl rfl Tryz.underlying9 (by kernel_rfl) (by kernel_rfl) e4 hok
 exact ⟨a, by rw [hcell, hl, hcs]; rfl⟩
end Go.Proofs.YtmofiicjaldmiaaGreatDoor.SyI
end
