import Derived.Test.YtpflenaoplblkaaGAq
section
namespace Go.Proofs.Ytpflenaoplblkaa.PaYa
open Go.RowKit YtpflenaoplblkaaW.PrintWords YtpflenaoplblkaaW.PrintLast ProA ProB ProC ProI ProD ProG ProJ ProK ProL ProM ProN ProO ProP ProQ ProR ProU ProZ ProBb PaA
open ProH (msgTab repTab ba)
open ProS PaI PaJ PaK PaL
open PaM PaN PaO PaP PaQ PaR PaS PaT PaU PaV PaWa PaW PaXa PaX
set_option linter.unusedVariables false
set_option linter.unusedSimpArgs false
open ProH
theorem rdS_data {B : Nat} {p : PS} {xs : List Int} {F F' : Flds} {k : Nat} (h : rdS p xs F = some (F', k)) (h1 : F.data.length ≤ B) (h2 : xs.length ≤ B) : F'.data.length ≤ B := by
 cases p with
 | num o k' lo hi =>
  simp only [rdS] at h
  by_cases hc : k' ≤ xs.length
  ·
   rw [if_pos hc] at h
   simp only [Option.some.injEq, Prod.mk.injEq] at h
   rw [← h.1]
   unfold Fput
   cases o <;> exact h1
  · rw [if_neg hc] at h; cases h
 | name =>
  simp only [rdS] at h
  by_cases hc : 1 ≤ xs.length ∧ 1 + len1 xs 1 ≤ xs.length
  ·
   rw [if_pos hc] at h
   simp only [Option.some.injEq, Prod.mk.injEq] at h
   rw [← h.1]
   exact h1
  · rw [if_neg hc] at h; cases h
 | blob hi =>
  simp only [rdS] at h
  by_cases hc : 4 ≤ xs.length ∧ 4 + len1 xs 4 ≤ xs.length
  ·
   rw [if_pos hc] at h
   simp only [Option.some.injEq, Prod.mk.injEq] at h
   rw [← h.1]
   simp only [List.length_take, List.length_drop]
   omega
  · rw [if_neg hc] at h; cases h
theorem decParts_data {B : Nat} : ∀ (ps : List PS) (xs : List Int) (F F' : Flds), decParts ps xs F = .ok F' → F.data.length ≤ B → xs.length ≤ B → F'.data.length ≤ B := by
 intro ps
 induction ps with
 | nil =>
  intro xs F F' h h1 h2
  unfold decParts at h
  by_cases hc : xs = []
  · rw [if_pos hc] at h; injection h with h; rw [← h]; exact h1
  · rw [if_neg hc] at h; cases h
 | cons p ps ih =>
  intro xs F F' h h1 h2
  unfold decParts at h
  cases hr : rdS p xs F with
  | none => rw [hr] at h; cases h
  | some y =>
   obtain ⟨F2, k⟩ := y
   rw [hr] at h
   simp only at h
   by_cases hc : fitsS p F2 = true
   ·
    rw [if_pos hc] at h
    exact ih _ _ _ h (rdS_data hr h1 h2) (by rw [List.length_drop]; omega)
   · rw [if_neg hc] at h; cases h
theorem decS_data {tab : List (List PS)} {xs : List Int} {F : Flds} (h : decS tab xs = .ok F) : F.data.length ≤ xs.length := by
 unfold decS at h
 by_cases h1 : xs.length < 1
 · rw [if_pos h1] at h; cases h
 rw [if_neg h1] at h
 cases ht : tab[(be (xs.take 1)).toNat]? with
 | none => rw [ht] at h; cases h
 | some ps =>
  rw [ht] at h
  simp only at h
  by_cases h2 : be (xs.take 1) < 1
  · rw [if_pos h2] at h; cases h
  ·
   rw [if_neg h2] at h
   exact decParts_data ps _ _ _ h (by simp [fd0]) (by rw [List.length_drop]; omega)
theorem cutS_data {tab : List (List PS)} {b : List Int} {F : Flds} {n : Nat} (h : cutS tab b = .ok (some (F, n))) : F.data.length ≤ b.length := by
 unfold cutS at h
 by_cases h1 : b.length < 4
 · rw [if_pos h1] at h; cases h
 rw [if_neg h1] at h
 by_cases h2 : be (b.take 4) < 1 ∨ 262400 < be (b.take 4)
 · rw [if_pos h2] at h; cases h
 rw [if_neg h2] at h
 by_cases h3 : b.length < 4 + len1 b 4
 · rw [if_pos h3] at h; cases h
 rw [if_neg h3] at h
 cases hd : decS tab ((b.drop 4).take (len1 b 4)) with
 | error q => rw [hd] at h; cases h
 | ok F' =>
  rw [hd] at h
  simp only [Except.ok.injEq, Option.some.injEq, Prod.mk.injEq] at h
  rw [← h.1]
  have := decS_data hd
  simp only [List.length_take, List.length_drop] at this
  omega
theorem cutS_none {tab : List (List PS)} {b : List Int} (h : cutS tab b = .ok none) : b.length ≤ 262404 := by
 unfold cutS at h
 by_cases h1 : b.length < 4
 · omega
 rw [if_neg h1] at h
 by_cases h2 : be (b.take 4) < 1 ∨ 262400 < be (b.take 4)
 · rw [if_pos h2] at h; cases h
 rw [if_neg h2] at h
 by_cases h3 : b.length < 4 + len1 b 4
 ·
  unfold len1 at h3
  omega
 rw [if_neg h3] at h
 cases hd : decS tab ((b.drop 4).take (len1 b 4)) with
 | error q => rw [hd] at h; cases h
 | ok F' => rw [hd] at h; simp at h
theorem feed_size {tab : List (List PS)} : ∀ (k : Nat) (b : List Int), b.length < k → 5 * (feedS tab b).1.length ≤ b.length ∧ (feedS tab b).2.2.length ≤ 262404 ∧ (∀ F ∈ (feedS tab b).1, F.data.length ≤ b.length) := by
 intro k
 induction k with
 | zero => intro b h; omega
 | succ k ih =>
  intro b hl
  cases hc : cutS tab b with
  | error q => rw [feedS_err hc]; exact ⟨by simp, by simp, by simp⟩
  | ok r =>
   cases r with
   | none => rw [feedS_wait hc]; exact ⟨by simp, cutS_none hc, by simp⟩
   | some x =>
    obtain ⟨F, n⟩ := x
    obtain ⟨h1, h2, _⟩ := cutS_some hc
    obtain ⟨i1, i2, i3⟩ := ih (b.drop n) (by rw [List.length_drop]; omega)
    rw [feedS_step hc]
    rw [List.length_drop] at i1 i3
    refine ⟨by simp only [List.length_cons]; omega, i2, fun G hG => ?_⟩
    rcases List.mem_cons.1 hG with rfl | hG
    · exact cutS_data hc
    · have := i3 G hG; omega
theorem rep_size {tab : List (List PS)} : ∀ (k : Nat) (b : List Int), b.length < k → 5 * (repS tab b).1.length ≤ b.length ∧ (∀ F ∈ (repS tab b).1, F.data.length ≤ b.length) := by
 intro k
 induction k with
 | zero => intro b h; omega
 | succ k ih =>
  intro b hl
  cases hc : cutS tab b with
  | error q => rw [repS_err hc]; exact ⟨by simp, by simp⟩
  | ok r =>
   cases r with
   | none => rw [repS_wait hc]; exact ⟨by simp, by simp⟩
   | some x =>
    obtain ⟨F, n⟩ := x
    obtain ⟨h1, h2, _⟩ := cutS_some hc
    obtain ⟨i1, i3⟩ := ih (b.drop n) (by rw [List.length_drop]; omega)
    rw [repS_step hc]
    rw [List.length_drop] at i1 i3
    refine ⟨by simp only [List.length_cons]; omega, fun G hG => ?_⟩
    rcases List.mem_cons.1 hG with rfl | hG
    · exact cutS_data hc
    · have := i3 G hG; omega
theorem list_choice {α β : Type} {P : Nat → α → β → Prop} : ∀ (gs : List α), (∀ i x, gs[i]? = some x → ∃ z, P i x z) → ∃ zs : List β, zs.length = gs.length ∧ ∀ i x z, gs[i]? = some x → zs[i]? = some z → P i x z := by
 intro gs
 induction gs generalizing P with
 | nil => intro _; exact ⟨[], rfl, fun i x z h => by simp at h⟩
 | cons g gs ih =>
  intro h
  obtain ⟨z, hz⟩ := h 0 g rfl
  obtain ⟨zs, h1, h2⟩ := ih (P := fun i => P (i + 1)) (fun i x hx => h (i + 1) x (by simpa using hx))
  refine ⟨z :: zs, by simp [h1], fun i x z' hx hz' => ?_⟩
  cases i with
  | zero => simp at hx hz'; subst hx hz'; exact hz
  | succ i => exact h2 i x z' (by simpa using hx) (by simpa using hz')
theorem fm_index {α : Type} {gs : List (α × Option Nat)} (h : (gs.filterMap (·.2)).Nodup) : ∀ (i j : Nat) (x y : α × Option Nat) (k : Nat), gs[i]? = some x → gs[j]? = some y → x.2 = some k → y.2 = some k → i = j := by
 induction gs with
 | nil => intro i j x y k hx; simp at hx
 | cons g gs ih =>
  intro i j x y k hx hy h1 h2
  have hn : (gs.filterMap (·.2)).Nodup ∧ ∀ k, g.2 = some k → k ∉ gs.filterMap (·.2) := by
   cases hg : g.2 with
   | none => rw [List.filterMap_cons_none hg] at h; exact ⟨h, by simp⟩
   | some q =>
    rw [List.filterMap_cons_some hg, List.nodup_cons] at h
    exact ⟨h.2, fun k hk => by injection hk with hk; subst hk; exact h.1⟩
  cases i with
  | zero =>
   simp at hx
   subst hx
   cases j with
   | zero => rfl
   | succ j => exact absurd (List.mem_filterMap.2 ⟨y, List.mem_of_getElem? (by simpa using hy), h2⟩) (hn.2 k h1)
  | succ i =>
   cases j with
   | zero =>
    simp at hy
    subst hy
    exact absurd (List.mem_filterMap.2 ⟨x, List.mem_of_getElem? (by simpa using hx), h1⟩) (hn.2 k h2)
   | succ j => rw [ih hn.1 i j x y k (by simpa using hx) (by simpa using hy) h1 h2]
def gtag (own0 : Nat → Nat) (r : Option Nat) (zs : List Sl) : Nat → Nat := fun k => if r = some k then 25 else match zs.findIdx? (fun z => z.blk == some k) with | some i => 32 * i + 1 | none => own0 k
theorem gtag_row {own0 : Nat → Nat} {r : Option Nat} {zs : List Sl} {k : Nat} (h : r = some k) : gtag own0 r zs k = 25 := if_pos h
theorem gtag_at {own0 : Nat → Nat} {r : Option Nat} {zs : List Sl} {k i : Nat} {z : Sl} (h : r ≠ some k) (hz : zs[i]? = some z) (hk : z.blk = some k) (hu : ∀ j z', zs[j]? = some z' → z'.blk = some k → j = i) : gtag own0 r zs k = 32 * i + 1 := by
 unfold gtag
 rw [if_neg h]
 cases hf : zs.findIdx? (fun z => z.blk == some k) with
 | none =>
  rw [List.findIdx?_eq_none_iff] at hf
  have := hf z (List.mem_of_getElem? hz)
  simp [hk] at this
 | some j =>
  obtain ⟨hj, h1, _⟩ := List.findIdx?_eq_some_iff_getElem.1 hf
  rw [hu j _ (List.getElem?_eq_getElem hj) (by simpa using h1)]
theorem gtag_not {own0 : Nat → Nat} {r : Option Nat} {zs : List Sl} {k : Nat} (h : r ≠ some k) (hz : ∀ z ∈ zs, z.blk ≠ some k) : gtag own0 r zs k = own0 k := by
 unfold gtag
 rw [if_neg h]
 have : zs.findIdx? (fun z => z.blk == some k) = none := by
  rw [List.findIdx?_eq_none_iff]
  intro z hm
  simpa using hz z hm
 rw [this]
theorem gsplit35 {w' : World} {base hi : Nat} {okr : Nat → Prop} {lv : Value} {gs : List (S35 × Option Nat)} (h : Kd.R (ghost k35) 35 w' base okr lv gs) (hg : GOk base hi gs) (own0 : Nat → Nat) :
  ∃ (own' : Nat → Nat) (l : Sl) (ms : List MC) (D : List (Sl × List Int)), lv = Sl.enc l ∧ Ow mcK 35 w' own' 25 l ms ∧ (∀ (i : Nat) (p : Sl × List Int), D[i]? = some p → Ow u8K 5 w' own' (32 * i + 1) p.1 p.2) ∧ ms.map (·.d) = D.map (·.1) ∧ D.map (·.2) = gs.map (·.1.f4) ∧
   (∀ (i : Nat) (x : S35 × Option Nat), gs[i]? = some x → ∃ z, ms[i]? = some ⟨x.1.f0, x.1.f1, x.1.f2, x.1.f3, z⟩ ∧ D[i]? = some (z, x.1.f4)) ∧ ms.length = gs.length ∧ (∀ k, (k < base ∨ ¬ okr k) → own' k = own0 k) := by
 obtain ⟨A, c, hv, _, _⟩ := Kd.R_reads h
 obtain ⟨l, rfl⟩ : ∃ l : Sl, lv = l.enc := ⟨⟨A, _, c⟩, hv⟩
 clear hv
 have hbase : ∀ k, l.blk = some k → base ≤ k := fun k hk => Kd.R_base h k hk
 obtain ⟨h0, inner, ho, hr⟩ := h
 have hP : ∀ (i : Nat) (x : S35 × Option Nat), gs[i]? = some x → ∃ z : Sl, (inner.drop (i * 5)).take 5 = (⟨x.1.f0, x.1.f1, x.1.f2, x.1.f3, z⟩ : MC).cells ∧ Own w' base (fun k => ((okr k ∧ some k ≠ l.blk) ∧ x.2 = some k) ∧ z.blk = some k) z.enc x.1.f4 := by
  intro i x hx
  have hm : k35.M w' base (fun k => (okr k ∧ some k ≠ l.blk) ∧ x.2 = some k) x.1 ((inner.drop (i * 5)).take 5) := hr.2 i x hx
  obtain ⟨v4, hcs, hv4⟩ := k35_openM hm
  obtain ⟨A4, c4, e4, _, _⟩ := Kd.R_reads hv4
  obtain ⟨z, rfl⟩ : ∃ z : Sl, v4 = z.enc := ⟨⟨A4, _, c4⟩, e4⟩
  exact ⟨z, hcs, own_exact hv4⟩
 obtain ⟨zs, hzl, hz⟩ := list_choice gs hP
 have hgl : ∀ (i : Nat) (x : S35 × Option Nat), gs[i]? = some x → ∃ z, zs[i]? = some z := fun i x hx => ⟨zs[i]'(by rw [hzl]; exact (List.getElem?_eq_some_iff.1 hx).1), List.getElem?_eq_getElem _⟩
 have hlg : ∀ (i : Nat) (z : Sl), zs[i]? = some z → ∃ x, gs[i]? = some x := fun i z hx => ⟨gs[i]'(by rw [← hzl]; exact (List.getElem?_eq_some_iff.1 hx).1), List.getElem?_eq_getElem _⟩
 have hblk : ∀ (i : Nat) (x : S35 × Option Nat) (z : Sl), gs[i]? = some x → zs[i]? = some z → ∀ k, z.blk = some k → ((okr k ∧ some k ≠ l.blk) ∧ x.2 = some k) := fun i x z hx hz' k hk => ((hz i x z hx hz').2.1 k hk).1
 have hms : ∀ (i : Nat) (x : S35 × Option Nat) (z : Sl), gs[i]? = some x → zs[i]? = some z → (List.zipWith (fun (x : S35 × Option Nat) (z : Sl) => (⟨x.1.f0, x.1.f1, x.1.f2, x.1.f3, z⟩ : MC)) gs zs)[i]? = some ⟨x.1.f0, x.1.f1, x.1.f2, x.1.f3, z⟩ := fun i x z hx hz' => by rw [List.getElem?_zipWith, hx, hz']
 have hD : ∀ (i : Nat) (x : S35 × Option Nat) (z : Sl), gs[i]? = some x → zs[i]? = some z → (List.zipWith (fun (x : S35 × Option Nat) (z : Sl) => (z, x.1.f4)) gs zs)[i]? = some (z, x.1.f4) := fun i x z hx hz' => by rw [List.getElem?_zipWith, hx, hz']
 have hul : ∀ (i : Nat) (p : Sl × List Int), (List.zipWith (fun (x : S35 × Option Nat) (z : Sl) => (z, x.1.f4)) gs zs)[i]? = some p → ∃ x z, gs[i]? = some x ∧ zs[i]? = some z ∧ p = (z, x.1.f4) := fun i p hp => by
  have hi : i < gs.length := by have := (List.getElem?_eq_some_iff.1 hp).1; simp at this; omega
  obtain ⟨z, hz'⟩ := hgl i gs[i] (List.getElem?_eq_getElem hi)
  exact ⟨gs[i], z, List.getElem?_eq_getElem hi, hz', by have := hD i gs[i] z (List.getElem?_eq_getElem hi) hz'; rw [hp] at this; injection this⟩
 refine ⟨gtag own0 l.blk zs, l, List.zipWith (fun (x : S35 × Option Nat) (z : Sl) => (⟨x.1.f0, x.1.f1, x.1.f2, x.1.f3, z⟩ : MC)) gs zs, List.zipWith (fun (x : S35 × Option Nat) (z : Sl) => (z, x.1.f4)) gs zs, rfl, ?_, ?_, ?_, ?_, fun i x hx => ?_, by simp [hzl], fun k hk => ?_⟩
 ·
  refine Kd.R_lower (base := base) ⟨fun k hk => gtag_row hk, inner, by rw [List.length_zipWith, hzl, Nat.min_self]; exact ho, by rw [List.length_zipWith, hzl, Nat.min_self]; exact hr.1, fun i p hp => ?_⟩ (Nat.zero_le _)
  have hi : i < gs.length := by have := (List.getElem?_eq_some_iff.1 hp).1; simp at this; omega
  obtain ⟨z, hz'⟩ := hgl i gs[i] (List.getElem?_eq_getElem hi)
  have := hms i gs[i] z (List.getElem?_eq_getElem hi) hz'
  rw [hp] at this
  injection this with this
  subst this
  exact (hz i gs[i] z (List.getElem?_eq_getElem hi) hz').1
 ·
  intro i p hp
  obtain ⟨x, z, hx, hz', rfl⟩ := hul i p hp
  refine Kd.R_lower (base := base) (Kd.R_mono (hz i x z hx hz').2 (fun k hk => ?_)) (Nat.zero_le _)
  refine gtag_at (fun e => hk.1.1.2 e.symm) hz' hk.2 (fun j z2 hj hk2 => ?_)
  obtain ⟨y, hy⟩ := hlg j z2 hj
  exact fm_index hg.1 j i y x k hy hx (hblk j y z2 hy hj k hk2).2 hk.1.2
 ·
  apply List.ext_getElem?
  intro i
  by_cases hi : i < gs.length
  ·
   obtain ⟨z, hz'⟩ := hgl i gs[i] (List.getElem?_eq_getElem hi)
   rw [List.getElem?_map, List.getElem?_map, hms i _ z (List.getElem?_eq_getElem hi) hz', hD i _ z (List.getElem?_eq_getElem hi) hz']
   rfl
  · rw [List.getElem?_eq_none (by simp; omega), List.getElem?_eq_none (by simp; omega)]
 ·
  apply List.ext_getElem?
  intro i
  by_cases hi : i < gs.length
  ·
   obtain ⟨z, hz'⟩ := hgl i gs[i] (List.getElem?_eq_getElem hi)
   rw [List.getElem?_map, List.getElem?_map, hD i _ z (List.getElem?_eq_getElem hi) hz', List.getElem?_eq_getElem hi]
   rfl
  · rw [List.getElem?_eq_none (by simp; omega), List.getElem?_eq_none (by simp; omega)]
 ·
  obtain ⟨z, hz'⟩ := hgl i x hx
  exact ⟨z, hms i x z hx hz', hD i x z hx hz'⟩
 ·
  refine gtag_not (fun e => ?_) (fun z hm e => ?_)
  ·
   rcases hk with hk | hk
   · have := hbase k e; omega
   · exact hk (h0 k e)
  ·
   obtain ⟨i, hi⟩ := List.getElem?_of_mem hm
   obtain ⟨x, hx⟩ := hlg i z hi
   have hb := hblk i x z hx hi k e
   rcases hk with hk | hk
   · have := hg.2 x (List.mem_of_getElem? hx) k hb.2; omega
   · exact hk hb.1.1
theorem gsplit44 {w' : World} {base hi : Nat} {okr : Nat → Prop} {lv : Value} {gs : List (S44 × Option Nat)} (h : Kd.R (ghost k44) 44 w' base okr lv gs) (hg : GOk base hi gs) (own0 : Nat → Nat) :
  ∃ (own' : Nat → Nat) (l : Sl) (ms : List RC) (D : List (Sl × List Int)), lv = Sl.enc l ∧ Ow rcK 44 w' own' 25 l ms ∧ (∀ (i : Nat) (p : Sl × List Int), D[i]? = some p → Ow u8K 5 w' own' (32 * i + 1) p.1 p.2) ∧ ms.map (·.d) = D.map (·.1) ∧ D.map (·.2) = gs.map (·.1.f3) ∧
   (∀ (i : Nat) (x : S44 × Option Nat), gs[i]? = some x → ∃ z, ms[i]? = some ⟨x.1.f0, x.1.f1, x.1.f2, z⟩ ∧ D[i]? = some (z, x.1.f3)) ∧ ms.length = gs.length ∧ (∀ k, (k < base ∨ ¬ okr k) → own' k = own0 k) := by
 obtain ⟨A, c, hv, _, _⟩ := Kd.R_reads h
 obtain ⟨l, rfl⟩ : ∃ l : Sl, lv = l.enc := ⟨⟨A, _, c⟩, hv⟩
 clear hv
 have hbase : ∀ k, l.blk = some k → base ≤ k := fun k hk => Kd.R_base h k hk
 obtain ⟨h0, inner, ho, hr⟩ := h
 have hP : ∀ (i : Nat) (x : S44 × Option Nat), gs[i]? = some x → ∃ z : Sl, (inner.drop (i * 4)).take 4 = (⟨x.1.f0, x.1.f1, x.1.f2, z⟩ : RC).cells ∧ Own w' base (fun k => ((okr k ∧ some k ≠ l.blk) ∧ x.2 = some k) ∧ z.blk = some k) z.enc x.1.f3 := by
  intro i x hx
  have hm : k44.M w' base (fun k => (okr k ∧ some k ≠ l.blk) ∧ x.2 = some k) x.1 ((inner.drop (i * 4)).take 4) := hr.2 i x hx
  obtain ⟨v4, hcs, hv4⟩ := k44_openM hm
  obtain ⟨A4, c4, e4, _, _⟩ := Kd.R_reads hv4
  obtain ⟨z, rfl⟩ : ∃ z : Sl, v4 = z.enc := ⟨⟨A4, _, c4⟩, e4⟩
  exact ⟨z, hcs, own_exact hv4⟩
 obtain ⟨zs, hzl, hz⟩ := list_choice gs hP
 have hgl : ∀ (i : Nat) (x : S44 × Option Nat), gs[i]? = some x → ∃ z, zs[i]? = some z := fun i x hx => ⟨zs[i]'(by rw [hzl]; exact (List.getElem?_eq_some_iff.1 hx).1), List.getElem?_eq_getElem _⟩
 have hlg : ∀ (i : Nat) (z : Sl), zs[i]? = some z → ∃ x, gs[i]? = some x := fun i z hx => ⟨gs[i]'(by rw [← hzl]; exact (List.getElem?_eq_some_iff.1 hx).1), List.getElem?_eq_getElem _⟩
 have hblk : ∀ (i : Nat) (x : S44 × Option Nat) (z : Sl), gs[i]? = some x → zs[i]? = some z → ∀ k, z.blk = some k → ((okr k ∧ some k ≠ l.blk) ∧ x.2 = some k) := fun i x z hx hz' k hk => ((hz i x z hx hz').2.1 k hk).1
 have hms : ∀ (i : Nat) (x : S44 × Option Nat) (z : Sl), gs[i]? = some x → zs[i]? = some z → (List.zipWith (fun (x : S44 × Option Nat) (z : Sl) => (⟨x.1.f0, x.1.f1, x.1.f2, z⟩ : RC)) gs zs)[i]? = some ⟨x.1.f0, x.1.f1, x.1.f2, z⟩ := fun i x z hx hz' => by rw [List.getElem?_zipWith, hx, hz']
 have hD : ∀ (i : Nat) (x : S44 × Option Nat) (z : Sl), gs[i]? = some x → zs[i]? = some z → (List.zipWith (fun (x : S44 × Option Nat) (z : Sl) => (z, x.1.f3)) gs zs)[i]? = some (z, x.1.f3) := fun i x z hx hz' => by rw [List.getElem?_zipWith, hx, hz']
 have hul : ∀ (i : Nat) (p : Sl × List Int), (List.zipWith (fun (x : S44 × Option Nat) (z : Sl) => (z, x.1.f3)) gs zs)[i]? = some p → ∃ x z, gs[i]? = some x ∧ zs[i]? = some z ∧ p = (z, x.1.f3) := fun i p hp => by
  have hi : i < gs.length := by have := (List.getElem?_eq_some_iff.1 hp).1; simp at this; omega
  obtain ⟨z, hz'⟩ := hgl i gs[i] (List.getElem?_eq_getElem hi)
  exact ⟨gs[i], z, List.getElem?_eq_getElem hi, hz', by have := hD i gs[i] z (List.getElem?_eq_getElem hi) hz'; rw [hp] at this; injection this⟩
 refine ⟨gtag own0 l.blk zs, l, List.zipWith (fun (x : S44 × Option Nat) (z : Sl) => (⟨x.1.f0, x.1.f1, x.1.f2, z⟩ : RC)) gs zs, List.zipWith (fun (x : S44 × Option Nat) (z : Sl) => (z, x.1.f3)) gs zs, rfl, ?_, ?_, ?_, ?_, fun i x hx => ?_, by simp [hzl], fun k hk => ?_⟩
 ·
  refine Kd.R_lower (base := base) ⟨fun k hk => gtag_row hk, inner, by rw [List.length_zipWith, hzl, Nat.min_self]; exact ho, by rw [List.length_zipWith, hzl, Nat.min_self]; exact hr.1, fun i p hp => ?_⟩ (Nat.zero_le _)
  have hi : i < gs.length := by have := (List.getElem?_eq_some_iff.1 hp).1; simp at this; omega
  obtain ⟨z, hz'⟩ := hgl i gs[i] (List.getElem?_eq_getElem hi)
  have := hms i gs[i] z (List.getElem?_eq_getElem hi) hz'
  rw [hp] at this
  injection this with this
  subst this
  exact (hz i gs[i] z (List.getElem?_eq_getElem hi) hz').1
 ·
  intro i p hp
  obtain ⟨x, z, hx, hz', rfl⟩ := hul i p hp
  refine Kd.R_lower (base := base) (Kd.R_mono (hz i x z hx hz').2 (fun k hk => ?_)) (Nat.zero_le _)
  refine gtag_at (fun e => hk.1.1.2 e.symm) hz' hk.2 (fun j z2 hj hk2 => ?_)
  obtain ⟨y, hy⟩ := hlg j z2 hj
  exact fm_index hg.1 j i y x k hy hx (hblk j y z2 hy hj k hk2).2 hk.1.2
 ·
  apply List.ext_getElem?
  intro i
  by_cases hi : i < gs.length
  ·
   obtain ⟨z, hz'⟩ := hgl i gs[i] (List.getElem?_eq_getElem hi)
   rw [List.getElem?_map, List.getElem?_map, hms i _ z (List.getElem?_eq_getElem hi) hz', hD i _ z (List.getElem?_eq_getElem hi) hz']
   rfl
  · rw [List.getElem?_eq_none (by simp; omega), List.getElem?_eq_none (by simp; omega)]
 ·
  apply List.ext_getElem?
  intro i
  by_cases hi : i < gs.length
  ·
   obtain ⟨z, hz'⟩ := hgl i gs[i] (List.getElem?_eq_getElem hi)
   rw [List.getElem?_map, List.getElem?_map, hD i _ z (List.getElem?_eq_getElem hi) hz', List.getElem?_eq_getElem hi]
   rfl
  · rw [List.getElem?_eq_none (by simp; omega), List.getElem?_eq_none (by simp; omega)]
 ·
  obtain ⟨z, hz'⟩ := hgl i x hx
  exact ⟨z, hms i x z hx hz', hD i x z hx hz'⟩
 ·
  refine gtag_not (fun e => ?_) (fun z hm e => ?_)
  ·
   rcases hk with hk | hk
   · have := hbase k e; omega
   · exact hk (h0 k e)
  ·
   obtain ⟨i, hi⟩ := List.getElem?_of_mem hm
   obtain ⟨x, hx⟩ := hlg i z hi
   have hb := hblk i x z hx hi k e
   rcases hk with hk | hk
   · have := hg.2 x (List.mem_of_getElem? hx) k hb.2; omega
   · exact hk hb.1.1
theorem WInv.fed {w w' : World} {g : Nat} {own own' : Nat → Nat} {s : St} {h : Gh} {j : Nat} {p p' : PG} {ts : Nat → Prop} (H : WInv w g own s h) (hp : h.L[j]? = some p) (hk : Kp ts w own w' own') (hts : ∀ q, ts q → fre q ∨ q = 32 * j + 21 ∨ q = 32 * j + 22) (hx : p'.x = p.x) (hy : p'.y = p.y) (hd : Dec w' own' j p') : WInv w' g own' s { h with L := h.L.set j p' } := by
 have hk2 : Kp (fun q => fre q ∨ q = 32 * j + 21 ∨ q = 32 * j + 22) w own w' own' := hk.mono hts
 have f : ∀ t, ¬ (t % 32 = 1 ∨ 21 ≤ t % 32) → ¬ (fre t ∨ t = 32 * j + 21 ∨ t = 32 * j + 22) := fun t ht hh => by
  rcases hh with hh | hh
  · exact ht (hh.elim .inl (fun h => .inr (by omega)))
  · exact ht (.inr (by omega))
 obtain ⟨b1, b2⟩ := Blk.keep H.blk hk2 (by rw [H.og]; exact f _ (by decide))
 have hl : PL w' own' s.l (h.L.set j p') := by
  have hm : (h.L.set j p').map (fun p => (p.x, p.y)) = h.L.map (fun p => (p.x, p.y)) := by
   rw [List.map_set]
   apply List.ext_getElem?
   intro i
   by_cases hi : i = j
   ·
    subst hi
    rw [List.getElem?_set_self (by simpa using (List.getElem?_eq_some_iff.1 hp).1), List.getElem?_map, hp, hx, hy]
    rfl
   · rw [List.getElem?_set_ne (fun e => hi e.symm)]
  refine ⟨by rw [hm]; exact H.l.1.keep hk2 (f _ (by decide)), fun i q hq => ?_⟩
  by_cases hi : i = j
  ·
   subst hi
   rw [List.getElem?_set_self (List.getElem?_eq_some_iff.1 hp).1] at hq
   injection hq with hq
   subst hq
   exact hd
  ·
   rw [List.getElem?_set_ne (fun e => hi e.symm)] at hq
   refine (H.l.2 i q hq).keep hk2 ?_ ?_
   ·
    rintro (hh | hh | hh)
    · unfold fre at hh; omega
    · omega
    · omega
   ·
    rintro (hh | hh | hh)
    · unfold fre at hh; omega
    · omega
    · omega
 exact {
  blk := b1
  og := b2.trans H.og
  l := hl
  f0 := H.f0.keep hk2 (f _ (by decide)) (fun i => f _ (by omega))
  f1 := H.f1.keep u8K_K (by decide) hk2 (f _ (by decide)) (f _ (by decide))
  t0 := H.t0.keep hk2 (f _ (by decide)) (fun i => f _ (by omega))
  t1 := H.t1.keep mcK_K (by decide) hk2 (f _ (by decide)) (f _ (by decide))
  a0 := H.a0.keep hk2 (f _ (by decide)) (fun i => f _ (by omega))
  a1 := H.a1.keep rcK_K (by decide) hk2 (f _ (by decide)) (f _ (by decide))
  b := H.b.keep u8K_K (by decide) hk2 (f _ (by decide)) (f _ (by decide))
  m := H.m.keep mcK_K (by decide) hk2 (f _ (by decide)) (f _ (by decide))
  r := H.r.keep rcK_K (by decide) hk2 (f _ (by decide)) (f _ (by decide))
  k0 := H.k0.keep hk2 (f _ (by decide))
  k1 := H.k1.keep hk2 (f _ (by decide))
  k2 := H.k2.keep hk2 (f _ (by decide))
  e := H.e.keep hk2 (f _ (by decide)) (fun i => f _ (by omega)) }
end Go.Proofs.Ytpflenaoplblkaa.PaYa
end
section
namespace Go.Proofs.Ytpflenaoplblkaa.PaYb
open Go.RowKit YtpflenaoplblkaaW.PrintWords YtpflenaoplblkaaW.PrintLast ProA ProB ProC ProI ProD ProG ProJ ProK ProL ProM ProN ProO ProP ProQ ProR ProU ProZ ProBb PaA
open ProH (msgTab repTab ba)
open ProS PaI PaJ PaK PaL
open PaM PaN PaO PaP PaQ PaR PaS PaT PaU PaV PaWa PaW PaXa PaX PaYa
set_option linter.unusedVariables false
set_option linter.unusedSimpArgs false
def resS (p : PG) (xs : List Int) : List Flds × Int × List Int := if p.dead = true then ([], 124, p.ws) else feedS msgTab (p.ws ++ xs)
theorem tu_kp {w w' : World} {own own' : Nat → Nat} {S : List Nat} {t : Nat} (h : Tu S w w') (hS : ∀ k, k ∈ S → k < w.heap.size → own k = t) (ho : ∀ k, k < w.heap.size → own' k = own k) : Kp (fun q => q = t) w own w' own' :=
  ⟨h.os, h.tape, h.output, h.size, fun k hk hn => ⟨ho k hk, h.block k hk (fun hm => hn (hS k hm hk))⟩⟩
def FedX (w : World) (own : Nat → Nat) (j : Nat) (p : PG) (r : List Flds × Int × List Int) (e : Ending) (w' : World) : Prop :=
 ∃ (own' : Nat → Nat) (l : Sl) (ms : List MC) (D : List (Sl × List Int)), e = .returned (.tuple #[l.enc, .int .i64 r.2.1]) ∧ Ow mcK 35 w' own' 25 l ms ∧ (∀ (i : Nat) (q : Sl × List Int), D[i]? = some q → Ow u8K 5 w' own' (32 * i + 1) q.1 q.2) ∧ ms.map (·.d) = D.map (·.1) ∧
  (∀ (i : Nat) (F : Flds), r.1[i]? = some F → ∃ z, ms[i]? = some ⟨F.kind, F.tn, F.name, F.n, z⟩ ∧ D[i]? = some (z, F.data)) ∧ ms.length = r.1.length ∧ D.map (·.2) = r.1.map (·.data) ∧
  (∃ wv, Blk w' p.x #[wv, .bool (r.2.1 != 0)] 67 ∧ Own w' 0 (fun k => own' k = 32 * j + 21) wv r.2.2) ∧ Kp (fun q => q = 32 * j + 21) w own w' own' ∧ own' p.x = 32 * j + 21
theorem feedX_ok (w : World) (own : Nat → Nat) (j : Nat) (p : PG) (H : Dec w own j p) (xs : List Int) (A : Option Addr) (c : Nat) (hx : BytesAt w A xs.length xs) (hc : xs.length ≤ c) (hu : u8s xs) (hl : xs.length ≤ 10000000) :
  Calls Try.prog 10 #[pt p.x, .slice A xs.length c] w (FedX w own j p (resS p xs)) := by
 obtain ⟨wv, hb, ho⟩ := H.x
 unfold resS
 by_cases hd : p.dead = true
 ·
  rw [if_pos hd]
  rw [hd] at hb
  refine (feed_dead w p.x wv A xs.length c hb).mono ?_
  rintro e w' ⟨rfl, rfl⟩
  exact ⟨own, nilS, [], [], rfl, Kd.R_nil _ _ _ _ _, fun i q hq => by simp at hq, rfl, fun i F hF => by simp at hF, rfl, rfl, ⟨wv, hb, ho⟩, Kp.refl _ _ _, H.ox⟩
 ·
  rw [if_neg hd]
  have hd' : p.dead = false := by simpa using hd
  rw [hd'] at hb
  have hle := H.le
  refine (feed2_ok w p.x 0 c wv p.ws xs A hb (Kd.R_mono ho (fun _ _ => trivial)) (Nat.zero_le _) hx hc H.u8 hu (by omega)).mono ?_
  rintro e w' ⟨lv, wv', gs, rfl, hR, hn, hg, hb', ho', ht⟩
  obtain ⟨own', l, ms, D, rfl, h1, h2, h3, h4, h5, h6, h7⟩ := gsplit35 hR hg (fun k => if k < w.heap.size then own k else if wv'.ownBlock = some k then 32 * j + 21 else 24)
  have hgl : gs.length = (feedS msgTab (p.ws ++ xs)).1.length := by have := congrArg List.length hn; simpa using this
  have hold : ∀ k, k < w.heap.size → own' k = own k := fun k hk => by rw [h7 k (.inl hk)]; exact if_pos hk
  have hnew : ∀ k, wv'.ownBlock = some k → own' k = 32 * j + 21 := fun k hk => by
   rw [h7 k (.inr (fun hh => hh hk.symm))]
   have hge := Kd.R_base ho' k hk
   rw [if_neg (by omega), if_pos hk]
  refine ⟨own', l, ms, D, rfl, h1, h2, h3, fun i F hF => ?_, h6.trans hgl, ?_, ⟨wv', hb', Kd.R_lower (Kd.R_mono (own_exact ho') (fun k hk => hnew k hk.2)) (Nat.zero_le _)⟩, ?_, ?_⟩
  ·
   have hi : i < gs.length := by rw [hgl]; exact (List.getElem?_eq_some_iff.1 hF).1
   obtain ⟨z, hz1, hz2⟩ := h5 i gs[i] (List.getElem?_eq_getElem hi)
   have hgi : gs[i].1 = msgOf F := by
    have := congrArg (fun z => z[i]?) hn
    simp only [List.getElem?_map, List.getElem?_eq_getElem hi, hF, Option.map_some, Option.some.injEq] at this
    exact this
   rw [hgi] at hz1 hz2
   exact ⟨z, hz1, hz2⟩
  ·
   rw [h4]
   have : gs.map (·.1.f4) = (gs.map (·.1)).map (·.f4) := by rw [List.map_map]; rfl
   rw [this, hn, List.map_map]
   rfl
  ·
   refine tu_kp ht (fun k hk _ => ?_) hold
   rcases List.mem_cons.1 hk with rfl | hk
   · exact H.ox
   · exact (ho.1 k (by simpa [Option.mem_toList] using hk))
  ·
   rw [hold _ (Blk.lt hb)]
   exact H.ox
def FedY (w : World) (own : Nat → Nat) (j : Nat) (p : PG) (r : List Flds × Int × List Int) (e : Ending) (w' : World) : Prop :=
 ∃ (own' : Nat → Nat) (lv : Value), e = .returned (.tuple #[lv, .int .i64 r.2.1]) ∧ Kd.R k35 35 w' 0 (fun k => own' k = 24 ∨ own' k = 32 * j + 22) lv (r.1.map msgOf) ∧
  (∃ wv, Blk w' p.y #[wv, .bool (r.2.1 != 0)] 106 ∧ Off w' (fun k => own' k = 32 * j + 22) wv r.2.2) ∧ Kp (fun q => q = 32 * j + 22) w own w' own' ∧ own' p.y = 32 * j + 22
theorem off_exact {w : World} {ok : Nat → Prop} {v : Value} {xs : List Int} (h : Off w ok v xs) : Off w (fun k => ok k ∧ v.ownBlock = some k) v xs := by
 rcases h with h | ⟨b, off, c, cur, rfl, h2, h3⟩
 · exact .inl h
 · exact .inr ⟨b, off, c, cur, rfl, ⟨h2, rfl⟩, h3⟩
theorem feedY_ok (w : World) (own : Nat → Nat) (j : Nat) (p : PG) (wv : Value) (hb : Blk w p.y #[wv, .bool p.dead] 106) (ho : Off w (fun k => own k = 32 * j + 22) wv p.ws) (hoy : own p.y = 32 * j + 22) (hu8 : u8s p.ws) (hle : p.ws.length ≤ 1000000) (xs : List Int) (A : Option Addr) (c : Nat) (hx : BytesAt w A xs.length xs) (hc : xs.length ≤ c) (hu : u8s xs) (hl : xs.length ≤ 10000000) :
  Calls Try.prog 59 #[pt p.y, .slice A xs.length c] w (FedY w own j p (resS p xs)) := by
 unfold resS
 by_cases hd : p.dead = true
 ·
  rw [if_pos hd]
  rw [hd] at hb
  refine (rfeed_dead w p.y wv A xs.length c hb).mono ?_
  rintro e w' ⟨rfl, rfl⟩
  exact ⟨own, nilS.enc, rfl, Kd.R_nil _ _ _ _ _, ⟨wv, hb, ho⟩, Kp.refl _ _ _, hoy⟩
 ·
  rw [if_neg hd]
  have hd' : p.dead = false := by simpa using hd
  rw [hd'] at hb
  refine (rfeed_ok w p.y wv p.ws xs A c hb (off_mono ho (fun _ _ => trivial)) hx hc hu hu8 (by omega)).mono ?_
  rintro e w' ⟨lv, wv', rfl, hR, hb', ho', ht⟩
  have hob : ∀ k, wv.ownBlock = some k → own k = 32 * j + 22 := fun k hk => by
   rcases ho with ⟨rfl, _⟩ | ⟨b, off, c, cur, rfl, h2, _⟩
   · simp [Value.ownBlock] at hk
   · simp [Value.ownBlock] at hk; subst hk; exact h2
  refine ⟨fun k => if k < w.heap.size then own k else if wv'.ownBlock = some k then 32 * j + 22 else 24, lv, rfl, ?_, ⟨wv', hb', off_mono (off_exact ho') (fun k hk => ?_)⟩, tu_kp ht (fun k hk _ => ?_) (fun k hk => if_pos hk), ?_⟩
  ·
   refine Kd.R_lower (Kd.R_mono (Kd.R_bound hR) (fun k hk => ?_)) (Nat.zero_le _)
   dsimp only
   rw [if_neg (by have := hk.2.1; omega)]
   by_cases hw : wv'.ownBlock = some k
   · rw [if_pos hw]; exact .inr rfl
   · rw [if_neg hw]; exact .inl rfl
  ·
   dsimp only
   by_cases hlt : k < w.heap.size
   ·
    rw [if_pos hlt]
    rcases hk.1 with hk1 | hk1
    · exact hob k hk1
    · omega
   · rw [if_neg hlt, if_pos hk.2]
  ·
   rcases List.mem_cons.1 hk with rfl | hk
   · exact hoy
   · exact hob k (by simpa [Option.mem_toList] using hk)
  ·
   dsimp only
   rw [if_pos (Blk.lt hb)]
   exact hoy
theorem hand_rd {w : World} {own : Nat → Nat} {t : Nat} {G D : Sl} {xs ys : List Int} (hG : Ow u8K 5 w own t G (xs ++ ys)) {w0 : World} {own0 : Nat → Nat} {tD : Nat} (hD : Rd u8K w0 own0 tD D xs) : (handS G D).n = xs.length ∧ xs.length ≤ (handS G D).c ∧ BytesAt w (handS G D).A xs.length xs := by
 obtain ⟨A, n, c⟩ := D
 obtain rfl : xs.length = n := Kd_C_len hD.1
 obtain ⟨l1, l2, l3⟩ := ow_len hG
 have hl : xs.length ≤ G.n := by rw [← l1, List.length_append]; omega
 cases A with
 | none =>
  have h0 : xs.length = 0 := by
   by_cases h : 0 < xs.length
   ·
    obtain ⟨ad, e, _⟩ := hD.1.2.2 h
    cases e
   · omega
  refine ⟨h0.symm, ?_, ?_⟩
  · rw [h0]; exact Nat.zero_le _
  ·
   obtain rfl : xs = [] := List.eq_nil_of_length_eq_zero h0
   exact ⟨rfl, by simp, fun h => by simp at h⟩
 | some ad =>
  refine ⟨rfl, by show xs.length ≤ G.c; omega, ?_⟩
  have hl3 : Kd.C u8K w G.A (xs ++ ys).length (xs ++ ys) := by rw [l1]; exact l3
  have h9 := Kd.C_take (m := xs.length) hl3 (by simp)
  rw [List.take_left] at h9
  exact h9
end Go.Proofs.Ytpflenaoplblkaa.PaYb
end
section
namespace Go.Proofs.Ytpflenaoplblkaa.PaY
open Go.RowKit YtpflenaoplblkaaW.PrintWords YtpflenaoplblkaaW.PrintLast ProA ProB ProC ProI ProD ProG ProJ ProK ProL ProM ProN ProO ProP ProQ ProR ProU ProZ ProBb PaA
open ProH (msgTab repTab ba)
open ProS PaI PaJ PaK PaL
open PaM PaN PaO PaP PaQ PaR PaS PaT PaU PaV PaWa PaW PaXa PaX PaYa PaYb
set_option linter.unusedVariables false
set_option linter.unusedSimpArgs false
set_option maxRecDepth 100000 in
theorem num_ok (a : Int) (w : World) : Calls Try.prog 55 #[.int .i64 a] w fun e w' => e = .returned (.int .i64 a) ∧ w = w' := by
 go_enter Try.func55, Try.ntmps55
 go_wp2_with fail
 go_ret
 exact ⟨rfl, rfl⟩
structure FdS (w : World) (own : Nat → Nat) (g j tD : Nat) (s : St) (h : Gh) (G Dd : Sl) (xs : List Int) (l : Sl) (ms : List MC) (D : List (Sl × List Int)) (lv : Value) (r : List Flds) : Prop where
 wi : WInv w g own s h
 dd : Rd u8K w own tD Dd xs
 l : Ow mcK 35 w own 25 l ms
 d : ∀ (i : Nat) (q : Sl × List Int), D[i]? = some q → Ow u8K 5 w own (32 * i + 1) q.1 q.2
 r : Kd.R k35 35 w 0 (fun k => own k = 24 ∨ own k = 32 * j + 22) lv (r.map msgOf)
theorem FdS.keep {w w' : World} {own own' : Nat → Nat} {g j tD : Nat} {s : St} {h : Gh} {G Dd : Sl} {xs : List Int} {l : Sl} {ms : List MC} {D : List (Sl × List Int)} {lv : Value} {r : List Flds} {ts : Nat → Prop} (H : FdS w own g j tD s h G Dd xs l ms D lv r) (hk : Kp ts w own w' own') (h0 : ¬ ts tD) (h1 : ¬ ts 25) (h2 : ∀ i, ¬ ts (32 * i + 1)) (h3 : ¬ ts 24) (h4 : ¬ ts (32 * j + 22)) {s' : St} {h' : Gh} (hw : WInv w' g own' s' h') : FdS w' own' g j tD s' h' G Dd xs l ms D lv r :=
 ⟨hw, H.dd.keep u8K_K (by decide) hk h0, H.l.keep hk h1, fun i q hq => (H.d i q hq).keep hk (h2 i),
  Kd.R_mono (Kd.R_move (Kd.R_bound H.r) (fun k hb => (hk.block k hb.2.2.1 (by rcases hb.1 with e | e <;> rw [e] <;> assumption)).2)) (fun k hb => by rw [(hk.block k hb.2.2.1 (by rcases hb.1 with e | e <;> rw [e] <;> assumption)).1]; exact hb.1)⟩
theorem feed_mem {tab : List (List PS)} : ∀ (k : Nat) (b : List Int), b.length < k → ∀ x ∈ (feedS tab b).2.2, x ∈ b := by
 intro k
 induction k with
 | zero => intro b h; omega
 | succ k ih =>
  intro b hl
  cases hc : cutS tab b with
  | error q => rw [feedS_err hc]; simp
  | ok r =>
   cases r with
   | none => rw [feedS_wait hc]; exact fun x hx => hx
   | some x =>
    obtain ⟨F, n⟩ := x
    obtain ⟨h1, h2, _⟩ := cutS_some hc
    rw [feedS_step hc]
    exact fun x hx => List.mem_of_mem_drop (ih (b.drop n) (by rw [List.length_drop]; omega) x hx)
def FedP (w : World) (own : Nat → Nat) (g : Nat) (h : Gh) (w' : World) : Prop :=
 ∃ (own' : Nat → Nat) (s' : St) (L : List PG) (E : List (Sl × List Int)) (D cs : List (Sl × List Int)) (l c : Sl) (ms : List MC), WInv w' g own' s' { h with L := L, E := E, F := h.F ++ D, C := h.C ++ cs, T := h.T ++ [(l, ms)], U := h.U ++ [(c, ms)] } ∧
  cs.map (·.2) = D.map (·.2) ∧ ms.map (·.d) = D.map (·.1) ∧ D.length ≤ 500000 ∧ (∀ p ∈ D, p.2.length ≤ 100000000) ∧ L.length = h.L.length ∧ E.length ≤ h.E.length + 1 ∧ (∀ p ∈ E, p ∈ h.E ∨ ((∀ x ∈ p.2, x = 251) ∧ p.2.length ≤ 100000000)) ∧ Kp big w own w' own'
theorem resS_facts (p : PG) (xs : List Int) (h1 : p.ws.length ≤ 1000000) (h2 : xs.length ≤ 1100000) (h3 : u8s p.ws) (h4 : u8s xs) : (resS p xs).1.length ≤ 500000 ∧ (resS p xs).2.2.length ≤ 1000000 ∧ u8s (resS p xs).2.2 ∧ ∀ F ∈ (resS p xs).1, F.data.length ≤ 100000000 := by
 unfold resS
 by_cases hd : p.dead = true
 ·
  rw [if_pos hd]
  exact ⟨by simp, h1, h3, by simp⟩
 ·
  rw [if_neg hd]
  obtain ⟨a, b, c⟩ := feed_size (tab := msgTab) ((p.ws ++ xs).length + 1) (p.ws ++ xs) (by omega)
  have d := feed_mem (tab := msgTab) ((p.ws ++ xs).length + 1) (p.ws ++ xs) (by omega)
  have hl : (p.ws ++ xs).length = p.ws.length + xs.length := List.length_append
  refine ⟨by omega, by omega, fun x hx => ?_, fun F hF => by have := c F hF; omega⟩
  rcases List.mem_append.1 (d x hx) with hm | hm
  · exact h3 x hm
  · exact h4 x hm
set_option maxHeartbeats 4000000 in
set_option maxRecDepth 100000 in
theorem feeds_ok (w : World) (g tD : Nat) (own : Nat → Nat) (s : St) (h : Gh) (H : WInv w g own s h) (hm : Sm h) (j : Nat) (p : PG) (hp : h.L[j]? = some p) (Dd : Sl) (xs : List Int) (hD : Rd u8K w own tD Dd xs) (ht : tD = 0 ∨ tD = 27) (hu : u8s xs) (hx : xs.length ≤ 1100000) (hC : h.C.length = h.F.length) (hU : h.U.length ≤ 1000000000000) :
  Calls Try.prog 33 #[pt g, .agg #[pt p.x, pt p.y], Dd.enc] w fun e w' => e = .returned (.bool true) ∧ FedP w own g h w' := by
 have HP := Lib.hid hp
 have HM := Lib.hid hm
 have HC := Lib.hid hC
 have HU := Lib.hid hu
 have HI := Lib.hid H
 clear hp hm hC hu H
 obtain ⟨dA, dn, dc⟩ := Dd
 obtain rfl : xs.length = dn := Kd_C_len hD.1
 have HD := Lib.hid hD
 clear hD
 go_enter Try.func33, Try.ntmps33
 simp only [Sl.enc]
 go_upto_region 1 with (fail)
 obtain ⟨gp, hgp⟩ : ∃ gp, gp = w.heap.size := ⟨_, rfl⟩
 have hk0 := Kp.below (ts := fun _ => False) (own := own) (Below.alloc (Below.refl w.heap.size w) (Nat.le_refl _) (.cells #[pt p.x, pt p.y] 81)) 24
 have HW := Lib.hid (HI.out.keep (hk0.mono (fun q hq => hq.elim)))
 have HDD := Lib.hid (HD.out.keep u8K_K (by decide) hk0 (fun hq => hq))
 have HGP := Lib.hid (show Blk (w.alloc (.cells #[pt p.x, pt p.y] 81)) gp #[pt p.x, pt p.y] 81 ∧ tagged w own 24 gp = 24 from ⟨by rw [hgp]; exact blkNew rfl, by rw [hgp]; exact tagged_new (Nat.le_refl _)⟩)
 have HK0 := Lib.hid hk0
 simp only [← hgp]
 clear hk0 hgp
 generalize w.alloc (.cells #[pt p.x, pt p.y] 81) = w0 at HW HDD HGP HK0 ⊢
 generalize tagged w own 24 = o0 at HW HDD HGP HK0
 go_wp2_with (go_at_call 51; refine Calls.mono (lend_ok w0 g tD o0 s h ⟨dA, xs.length, dc⟩ xs HW.out HM.out HDD.out ht (by omega)) ?_; rintro e w1 ⟨o1, G, E1, v1, rfl, hw1, he1, hel, hG1, hk1⟩)
 have HG := Lib.hid hG1
 have HE := Lib.hid (show (∀ p ∈ E1, p ∈ h.E) ∧ E1.length ≤ h.E.length from ⟨he1, hel⟩)
 have HD1 := Lib.hid (HDD.out.keep u8K_K (by decide) hk1 (by rcases ht with rfl | rfl <;> (intro hq; first | omega | (dsimp only at hq; omega) | (dsimp only at hq; done))))
 have HGP1 := Lib.hid (show Blk w1 gp #[pt p.x, pt p.y] 81 ∧ o1 gp = 24 from ⟨(Blk.keep HGP.out.1 hk1 (by rw [HGP.out.2]; (intro hq; first | omega | (dsimp only at hq; omega) | (dsimp only at hq; done)))).1, (Blk.keep HGP.out.1 hk1 (by rw [HGP.out.2]; (intro hq; first | omega | (dsimp only at hq; omega) | (dsimp only at hq; done)))).2.trans HGP.out.2⟩)
 have HK1 := Lib.hid ((HK0.out.mono (ts' := big) (fun q hq => hq.elim)).trans (hk1.mono (fun q hq => by unfold big; omega)))
 have HW1 := Lib.hid hw1
 clear hw1 he1 hel hG1 hk1 HW HDD HGP HK0 HI HD
 have hL := HW1.out.l
 have hdec := hL.2 j p HP.out
 have k20 : w1.cell? ⟨gp, 0, none⟩ = some (pt p.x) := Blk.cell (i := 0) HGP1.out.1 rfl
 have HDEC := Lib.hid hdec
 obtain ⟨hdn, hdc, hdx⟩ := hand_rd HG.out HD1.out
 obtain ⟨ga, gn, gc, hgh⟩ : ∃ a n c, handS G ⟨dA, xs.length, dc⟩ = ⟨a, n, c⟩ := ⟨_, _, _, rfl⟩
 have HH := Lib.hid hgh
 rw [hgh] at hdn hdc hdx
 dsimp only at hdn hdc hdx
 subst hdn
 have HDX := Lib.hid hdx
 have hgl : xs.length ≤ G.n := by
  have h1 := (ow_len HG.out).1
  rw [List.length_append] at h1
  omega
 have hgc : G.n ≤ G.c := (ow_len HG.out).2.1
 clear hL hdec hgh hdx
 refine start_ (n := 11) (S := fun w' => w'.cell? ⟨gp, 0, none⟩ = some (pt p.x)) (ds := [5]) #[false, false, false, false, false, false, false, false, false, false, false] (by kernel_rfl) rfl rfl k20 (fun hHeld => ?_)
 refine pu_ (i := 0) (N := some 20) (v := ?_) (a' := ?_) rfl rfl (by kernel_rfl) (fun _ _ _ h => h) (by rfl) ?_ ?_ ?_
 rotate_left
 · (intro w'; go_simp; with_reducible rfl)
 rotate_left
 · (simp only [put_s, List.set, i64_w, i32_w]; rfl)
 refine tk_ (i := 1) (N := some 21) (v := ?_) (a' := ?_) rfl rfl (by kernel_rfl) (fun _ _ _ h => h) (by rfl) ?_ hHeld ?_ ?_
 rotate_left
 · (intro w' s0; go_simp; with_reducible rfl)
 rotate_left
 · (simp only [put_s, List.set, i64_w, i32_w]; rfl)
 refine pu_ (i := 2) (N := some 22) (v := ?_) (a' := ?_) rfl rfl (by kernel_rfl) (fun _ _ _ h => h) (by rfl) ?_ ?_ ?_
 rotate_left
 · (intro w'; go_simp; with_reducible rfl)
 rotate_left
 · (simp only [put_s, List.set, i64_w, i32_w]; rfl)
 refine pu_ (i := 3) (N := some 23) (v := ?_) (a' := ?_) rfl rfl (by kernel_rfl) (fun _ _ _ h => h) (by rfl) ?_ ?_ ?_
 rotate_left
 · (intro w'; go_simp; with_reducible rfl)
 rotate_left
 · (simp only [put_s, List.set, i64_w, i32_w]; rfl)
 refine on_ (i := 4) (N := some 24) rfl rfl (by kernel_rfl) (by decide) (fun K hK => ?_)
 refine goes_ Try.func52 (by kernel_rfl) rfl #[G.enc, .slice dA xs.length dc] (by rfl) rfl rfl (by simp [Act.eval]) ?_
 refine Calls.mono (handed_ok G ⟨dA, xs.length, dc⟩ _ hgl hgc) ?_
 rintro e w2 ⟨rfl, rfl⟩
 rw [HH.out]
 simp only [Sl.enc]
 refine ⟨_, rfl, ?_⟩
 refine hK.out _ _ hHeld (fun hHeld => ?_)
 clear hK K
 refine norm_ (a' := ?_) ?_ ?_
 rotate_left
 ·
  show Act.put _ (some 24) _ = _
  simp only [put_s, List.set, i64_w, i32_w]
  rfl
 refine la_ (i := 5) (N := some 25) rfl rfl (by kernel_rfl) (by decide) (fun K hK => ?_)
 refine goes_ Try.func10 (by kernel_rfl) rfl #[pt p.x, .slice ga xs.length gc] (by rfl) rfl rfl (by simp [Act.eval]) ?_
 have hkd := Kp.below (ts := fun _ => False) (own := o1) (Below.drew (Below.refl w1.heap.size w1)) 24
 refine Calls.mono (feedX_ok w1.drew (tagged w1 o1 24) j p (HDEC.out.keep hkd (fun hq => hq) (fun hq => hq)) xs ga gc (BytesAt.below (B := 0) HDX.out (Below.drew (Below.refl _ _))) hdc HU.out (by omega)) ?_
 rintro e w2 ⟨o2, l, ms, D, rfl, hl, hd, hmd, hel, hln, hdd, hdx, hk2, hox⟩
 have HXX := Lib.hid (show _ ∧ _ ∧ _ ∧ _ ∧ _ from ⟨hl, hd, hdx, (hkd.mono (fun q hq => hq.elim)).trans hk2, hox⟩)
 have HMS := Lib.hid (show _ ∧ _ ∧ _ ∧ _ from ⟨hmd, hel, hln, hdd⟩)
 clear hl hd hdx hk2 hox hmd hel hln hdd hkd
 refine ⟨_, rfl, ?_⟩
 refine hK.out _ _ ?_
 clear hK K
 refine norm_ (a' := ?_) ?_ ?_
 rotate_left
 ·
  show Act.put _ (some 25) _ = _
  simp only [put_s, List.set, i64_w, i32_w]
  rfl
 refine pu_ (i := 6) (N := some 19) (v := ?_) (a' := ?_) rfl rfl (by kernel_rfl) (fun _ _ _ h => h) (by rfl) ?_ ?_ ?_
 rotate_left
 · (intro w'; go_simp; with_reducible rfl)
 rotate_left
 · (simp only [put_s, List.set, i64_w, i32_w]; rfl)
 refine pu_ (i := 7) (N := some 26) (v := ?_) (a' := ?_) rfl rfl (by kernel_rfl) (fun _ _ _ h => h) (by rfl) ?_ ?_ ?_
 rotate_left
 · (intro w'; go_simp; with_reducible rfl)
 rotate_left
 · (simp only [put_s, List.set, i64_w, i32_w]; rfl)
 refine pu_ (i := 8) (N := some 27) (v := ?_) (a' := ?_) rfl rfl (by kernel_rfl) (fun _ _ _ h => h) (by rfl) ?_ ?_ ?_
 rotate_left
 · (intro w'; go_simp; with_reducible rfl)
 rotate_left
 · (simp only [put_s, List.set, i64_w, i32_w]; rfl)
 refine pu_ (i := 9) (N := some 8) (v := ?_) (a' := ?_) rfl rfl (by kernel_rfl) (fun _ _ _ h => h) (by rfl) ?_ ?_ ?_
 rotate_left
 · (intro w'; go_simp; with_reducible rfl)
 rotate_left
 · (simp only [put_s, List.set, i64_w, i32_w]; rfl)
 refine pu_ (i := 10) (N := some 9) (v := ?_) (a' := ?_) rfl rfl (by kernel_rfl) (fun _ _ _ h => h) (by rfl) ?_ ?_ ?_
 rotate_left
 · (intro w'; go_simp; with_reducible rfl)
 rotate_left
 · (simp only [put_s, List.set, i64_w, i32_w]; rfl)
 refine done_ (by kernel_rfl) ?_
 clear k20 hHeld
 obtain ⟨wvy, hby, hoy⟩ := HDEC.out.y
 have hkx := HXX.out.2.2.2.1
 have hby2 := (Blk.keep hby hkx (by rw [HDEC.out.oy]; (intro hq; first | omega | (dsimp only at hq; omega) | (dsimp only at hq; done))))
 have HY := Lib.hid (show Blk w2 p.y #[wvy, .bool p.dead] 106 ∧ Off w2 (fun k => o2 k = 32 * j + 22) wvy p.ws ∧ o2 p.y = 32 * j + 22 from ⟨hby2.1, Off.keep hoy hkx (by (intro hq; first | omega | (dsimp only at hq; omega) | (dsimp only at hq; done))), hby2.2.trans HDEC.out.oy⟩)
 have HGP2 := Lib.hid (show Blk w2 gp #[pt p.x, pt p.y] 81 ∧ o2 gp = 24 from ⟨(Blk.keep HGP1.out.1 hkx (by rw [HGP1.out.2]; (intro hq; first | omega | (dsimp only at hq; omega) | (dsimp only at hq; done)))).1, (Blk.keep HGP1.out.1 hkx (by rw [HGP1.out.2]; (intro hq; first | omega | (dsimp only at hq; omega) | (dsimp only at hq; done)))).2.trans HGP1.out.2⟩)
 have k21 : w2.cell? ⟨gp, 1, none⟩ = some (pt p.y) := Blk.cell (i := 1) HGP2.out.1 rfl
 have HD2 := Lib.hid (HD1.out.keep u8K_K (by decide) hkx (by rcases ht with rfl | rfl <;> (intro hq; first | omega | (dsimp only at hq; omega) | (dsimp only at hq; done))))
 clear hby hoy hkx hby2 HGP1
 go_upto_region 4 with (go_at_call 59; refine Calls.mono (feedY_ok w2 o2 j p wvy HY.out.1 HY.out.2.1 HY.out.2.2 HDEC.out.u8 HDEC.out.le xs dA dc HD2.out.1 HD2.out.2.1 HU.out (by omega)) ?_; rintro e w3 ⟨o3, lv, rfl, hR, hyy, hk3, hoy3⟩)
 have hkx := HXX.out.2.2.2.1
 obtain ⟨r, hr⟩ : ∃ r, r = resS p xs := ⟨_, rfl⟩
 have HRF := Lib.hid (resS_facts p xs HDEC.out.le (by omega) HDEC.out.u8 HU.out)
 simp only [← hr] at HXX HMS HRF hR hyy ⊢
 clear hr
 obtain ⟨p', hp'⟩ : ∃ p' : PG, p' = { p with ws := r.2.2, dead := (r.2.1 != 0) } := ⟨_, rfl⟩
 have HDN : Hid (Dec w3 o3 j p') := Lib.hid (by
  obtain ⟨wv, hb, ho⟩ := HXX.out.2.2.1
  obtain ⟨wy, hby, hoy⟩ := hyy
  subst hp'
  exact ⟨⟨wv, (Blk.keep hb hk3 (by rw [HXX.out.2.2.2.2]; (intro hq; first | omega | (dsimp only at hq; omega) | (dsimp only at hq; done)))).1, Own.keep ho hk3 (by (intro hq; first | omega | (dsimp only at hq; omega) | (dsimp only at hq; done)))⟩, ⟨wy, hby, hoy⟩, (Blk.keep hb hk3 (by rw [HXX.out.2.2.2.2]; (intro hq; first | omega | (dsimp only at hq; omega) | (dsimp only at hq; done)))).2.trans HXX.out.2.2.2.2, hoy3, HRF.out.2.2.1, HRF.out.2.1⟩)
 have hk13 : Kp (fun q => q = 32 * j + 21 ∨ q = 32 * j + 22) w1 o1 w3 o3 := (hkx.mono (fun q hq => .inl hq)).trans (hk3.mono (fun q hq => .inr hq))
 have hw3 := WInv.fed HW1.out (p := p) HP.out hk13 (fun q hq => .inr hq) (p' := p') (by rw [hp']) (by rw [hp']) HDN.out
 have HG3 := Lib.hid (Ow.keep HG.out hk13 (by (intro hq; first | omega | (dsimp only at hq; omega) | (dsimp only at hq; done))))
 have HK3 := Lib.hid (HK1.out.trans (hk13.mono (fun q hq => by unfold big; omega)))
 have HFD := Lib.hid (show FdS w3 o3 g j tD _ _ G ⟨dA, xs.length, dc⟩ xs l ms D lv r.1 from ⟨hw3, HD2.out.keep u8K_K (by decide) hk3 (by rcases ht with rfl | rfl <;> (intro hq; first | omega | (dsimp only at hq; omega) | (dsimp only at hq; done))), Ow.keep HXX.out.1 hk3 (by (intro hq; first | omega | (dsimp only at hq; omega) | (dsimp only at hq; done))), fun i q hq => Ow.keep (HXX.out.2.1 i q hq) hk3 (by (intro hq; first | omega | (dsimp only at hq; omega) | (dsimp only at hq; done))), hR⟩)
 have HLEN := Lib.hid (show (h.L.set j p').length = h.L.length from List.length_set)
 generalize h.L.set j p' = L' at HFD HLEN
 obtain ⟨lvA, lvc, hlv, _, _⟩ := Kd.R_reads hR
 rw [List.length_map] at hlv
 subst hlv
 obtain ⟨lA, ln, lc⟩ := l
 have hln : ln = r.1.length := by have h1 := (ow_len HXX.out.1).1; have h2 := HMS.out.2.2.1; dsimp only at h1; omega
 subst hln
 have hrn : r.1.length ≤ 500000 := HRF.out.1
 clear HXX HY HGP2 k21 hk13 hk3 hw3 hoy3 hyy hR HDN hp' HD2 HW1 HG HK1 HDEC HDX HH hdc HD1 hkx
 simp only [Sl.enc]
 have de : decide ((r.1.length : Int) = (r.1.length : Int)) = true := by simp
 go_wp2_with fail
 clear de
 go_loopw [12, 13] (fun b i wr => ∃ (t : Nat), t ≤ r.1.length ∧ i = .int .i64 (t : Int) ∧ b = .bool true ∧ Hid (Below w3.heap.size w3 wr)) (fun _ i _ => r.1.length - (intOf i).toNat)
 case atStart => exact ⟨0, by omega, rfl, rfl, Lib.hid (Below.refl _ _)⟩
 case round =>
  rename_i wr
  obtain ⟨t, ht', rfl, rfl, HB⟩ := hrel
  by_cases htl : t < r.1.length
  ·
   have dt : decide ((t : Int) < (r.1.length : Int)) = true := by simp; omega
   have hti : (t : Int) < (r.1.length : Int) := by omega
   obtain ⟨F, hF⟩ : ∃ F, r.1[t]? = some F := ⟨r.1[t], List.getElem?_eq_getElem htl⟩
   obtain ⟨z, hz1, hz2⟩ := HMS.out.2.1 t F hF
   have hmc : mcK.C wr lA r.1.length ms := Kd.C_below (ow_len HFD.out.l).2.2 HB.out
   obtain ⟨lB, lcB, hlB, _, hlC⟩ := Kd.R_reads HFD.out.r
   rw [List.length_map, Value.slice.injEq] at hlB
   have hdc2 : Kd.C k35 wr lvA r.1.length (r.1.map msgOf) := by rw [hlB.1]; have := Kd.C_below hlC HB.out; rwa [List.length_map] at this
   clear hlB hlC
   have hzr := Rd.keep u8K_K (by decide) (ow_rd (HFD.out.d t _ hz2)) (Kp.below (ts := fun _ => False) (own := o3) HB.out 24) (fun hq => hq)
   dsimp only at hzr
   obtain ⟨zA, zn, zc⟩ := z
   obtain rfl : F.data.length = zn := Kd_C_len hzr.1
   obtain ⟨ad, rfl, k0, k1, k2, k3, k4⟩ := mc_at hmc t htl _ hz1
   obtain ⟨bd, Bd, dd, rfl, j0, j1, j2, j3, j4, _, hrd⟩ := at_T35 hdc2 (t : Int) (by omega) (by omega)
   have hrdM : rd_T35 (r.1.map msgOf) (t : Int) = msgOf F := by
    unfold rd_T35
    rw [Int.toNat_natCast, List.getD_eq_getElem?_getD, List.getElem?_map, hF]
    rfl
   rw [hrdM] at j0 j1 j2 j3 j4 hrd
   rw [Int.toNat_natCast] at j0 j1 j2 j3 j4
   simp only [Sl.enc] at k4
   dsimp only [msgOf] at k0 k1 k2 k3 j0 j1 j2 j3 j4 hrd
   have HRA := Lib.hid hzr.1
   have HRB := Lib.hid hrd
   have HK5 := Lib.hid (And.intro k0 (And.intro k1 (And.intro k2 (And.intro k3 (And.intro k4 (And.intro j0 (And.intro j1 (And.intro j2 (And.intro j3 j4)))))))))
   clear hrd hdc2 hmc hrdM k0 k1 k2 k3 k4 j0 j1 j2 j3 j4 hz1 hz2 hF hzr
   go_wp2_with fail
   refine start_ (n := 10) (S := fun w' => w'.cell? (ad.add (t * 5)) = some (.int .i64 F.kind) ∧ w'.cell? ⟨(ad.add (t * 5)).block, (ad.add (t * 5)).off + 1, none⟩ = some (.int .i64 F.tn) ∧ w'.cell? ⟨(ad.add (t * 5)).block, (ad.add (t * 5)).off + 2, none⟩ = some (.string F.name) ∧ w'.cell? ⟨(ad.add (t * 5)).block, (ad.add (t * 5)).off + 3, none⟩ = some (.int .i64 F.n) ∧ w'.cell? ⟨(ad.add (t * 5)).block, (ad.add (t * 5)).off + 4, none⟩ = some (.slice zA F.data.length zc) ∧ w'.cell? (bd.add (t * 5)) = some (.int .i64 F.kind) ∧ w'.cell? ⟨(bd.add (t * 5)).block, (bd.add (t * 5)).off + 1, none⟩ = some (.int .i64 F.tn) ∧ w'.cell? ⟨(bd.add (t * 5)).block, (bd.add (t * 5)).off + 2, none⟩ = some (.string F.name) ∧ w'.cell? ⟨(bd.add (t * 5)).block, (bd.add (t * 5)).off + 3, none⟩ = some (.int .i64 F.n) ∧ w'.cell? ⟨(bd.add (t * 5)).block, (bd.add (t * 5)).off + 4, none⟩ = some (.slice Bd F.data.length dd)) (ds := [8]) #[false, false, false, false, false, false, false, false, false, false] (by kernel_rfl) rfl rfl HK5.out (fun hHeld => ?_)
   refine pu_ (i := 0) (N := some 49) (v := ?_) (a' := ?_) rfl rfl (by kernel_rfl) (fun _ _ _ h => h) (by rfl) ?_ ?_ ?_
   rotate_left
   · (intro w'; go_simp; with_reducible rfl)
   rotate_left
   · (simp only [put_s, List.set, i64_w, i32_w]; rfl)
   refine pu_ (i := 1) (N := some 50) (v := ?_) (a' := ?_) rfl rfl (by kernel_rfl) (fun _ _ _ h => h) (by rfl) ?_ ?_ ?_
   rotate_left
   · (intro w'; go_simp; with_reducible rfl)
   rotate_left
   · (simp only [put_s, List.set, i64_w, i32_w]; rfl)
   refine pu_ (i := 2) (N := some 51) (v := ?_) (a' := ?_) rfl rfl (by kernel_rfl) (fun _ _ _ h => h) (by rfl) ?_ ?_ ?_
   rotate_left
   · (intro w'; go_simp; with_reducible rfl)
   rotate_left
   · (simp only [put_s, List.set, i64_w, i32_w]; rfl)
   refine tk_ (i := 3) (N := some 52) (v := ?_) (a' := ?_) rfl rfl (by kernel_rfl) (fun _ _ _ h => h) (by rfl) ?_ hHeld ?_ ?_
   rotate_left
   · (intro w' s0; go_simp; with_reducible rfl)
   rotate_left
   · (simp only [put_s, List.set, i64_w, i32_w]; rfl)
   refine pu_ (i := 4) (N := some 53) (v := ?_) (a' := ?_) rfl rfl (by kernel_rfl) (fun _ _ _ h => h) (by rfl) ?_ ?_ ?_
   rotate_left
   · (intro w'; go_simp; with_reducible rfl)
   rotate_left
   · (simp only [put_s, List.set, i64_w, i32_w]; rfl)
   refine pu_ (i := 5) (N := some 54) (v := ?_) (a' := ?_) rfl rfl (by kernel_rfl) (fun _ _ _ h => h) (by rfl) ?_ ?_ ?_
   rotate_left
   · (intro w'; go_simp; with_reducible rfl)
   rotate_left
   · (simp only [put_s, List.set, i64_w, i32_w]; rfl)
   refine pu_ (i := 6) (N := some 55) (v := ?_) (a' := ?_) rfl rfl (by kernel_rfl) (fun _ _ _ h => h) (by rfl) ?_ ?_ ?_
   rotate_left
   · (intro w'; go_simp; with_reducible rfl)
   rotate_left
   · (simp only [put_s, List.set, i64_w, i32_w]; rfl)
   refine tk_ (i := 7) (N := some 56) (v := ?_) (a' := ?_) rfl rfl (by kernel_rfl) (fun _ _ _ h => h) (by rfl) ?_ hHeld ?_ ?_
   rotate_left
   · (intro w' s0; go_simp; with_reducible rfl)
   rotate_left
   · (simp only [put_s, List.set, i64_w, i32_w]; rfl)
   refine la_ (i := 8) (N := some 57) rfl rfl (by kernel_rfl) (by decide) (fun K hK => ?_)
   refine goes_ Try.func14 (by kernel_rfl) rfl #[.agg #[.int .i64 F.kind, .int .i64 F.tn, .string F.name, .int .i64 F.n, .slice zA F.data.length zc], .agg #[.int .i64 F.kind, .int .i64 F.tn, .string F.name, .int .i64 F.n, .slice Bd F.data.length dd]] (by rfl) rfl rfl (by simp [Act.eval]) ?_
   refine Calls.mono (Go.Proofs.Ytpflenaoplblkaa.ProX.same_yes (msgOf F) zA Bd F.data.length F.data.length zc dd _ (BytesAt.below (B := 0) HRA.out (Below.drew (Below.refl _ _))) (BytesAt.below (B := 0) HRB.out (Below.drew (Below.refl _ _)))) ?_
   rintro e w5 ⟨rfl, hb5⟩
   have HB5 := Lib.hid (HB.out.trans (((Below.drew (Below.refl wr.heap.size wr)).trans hb5).mono HB.out.size))
   clear hb5
   refine ⟨_, rfl, ?_⟩
   refine hK.out _ _ ?_
   clear hK K
   refine norm_ (a' := ?_) ?_ ?_
   rotate_left
   ·
    show Act.put _ (some 57) _ = _
    simp only [put_s, List.set, i64_w, i32_w]
    rfl
   refine pu_ (i := 9) (N := some 12) (v := ?_) (a' := ?_) rfl rfl (by kernel_rfl) (fun _ _ _ h => h) (by rfl) ?_ ?_ ?_
   rotate_left
   · (intro w'; go_simp; with_reducible rfl)
   rotate_left
   · (simp only [put_s, List.set, i64_w, i32_w]; rfl)
   refine done_ (by kernel_rfl) ?_
   go_wp2_with fail
   exact ⟨⟨t + 1, by omega, by go_num, rfl, HB5⟩, by simp [intOf]; omega⟩
  ·
   obtain rfl : t = r.1.length := by omega
   have dt : decide (((r.1.length : Nat) : Int) < (r.1.length : Int)) = false := by simp
   have hkb := Kp.below (ts := fun _ => False) (own := o3) HB.out 24
   have HF4 := Lib.hid (HFD.out.keep hkb (fun hq => hq) (fun hq => hq) (fun i hq => hq) (fun hq => hq) (fun hq => hq) (HFD.out.wi.keep (hkb.mono (fun q hq => hq.elim))))
   have HG4 := Lib.hid (Ow.keep HG3.out hkb (fun hq => hq))
   have HK4 := Lib.hid (HK3.out.trans (hkb.mono (fun q hq => hq.elim)))
   clear hkb HFD HG3 HK3 HB
   generalize tagged w3 o3 24 = o4 at HF4 HG4 HK4
   have HM4 : Hid (Sm { h with L := L', E := E1 }) := Lib.hid (by
    have hM := HM.out
    exact ⟨hM.F, hM.T, hM.A, hM.B, hM.M, hM.R, by have := HE.out.2; have := hM.E; dsimp only; omega, by have h9 := HLEN.out; have := hM.L; dsimp only; omega, hM.fx, hM.tx, hM.ax, hM.bx, hM.mx, hM.rx, fun p hp => hM.ex p (HE.out.1 p hp)⟩)
   go_wp2_with (go_at_call 54; refine Calls.mono (whole_ok wr g tD o4 _ _ G ⟨dA, xs.length, dc⟩ xs HF4.out.wi HM4.out HF4.out.dd ht (by omega) HG4.out) ?_; rintro e w5 ⟨rfl, o5, v5, hw5, hk5⟩)
   have HFD := Lib.hid (HF4.out.keep hk5 (by rcases ht with rfl | rfl <;> (intro hq; first | omega | (dsimp only at hq; omega) | (dsimp only at hq; done))) (by (intro hq; first | omega | (dsimp only at hq; omega) | (dsimp only at hq; done))) (fun i => by (intro hq; first | omega | (dsimp only at hq; omega) | (dsimp only at hq; done))) (by (intro hq; first | omega | (dsimp only at hq; omega) | (dsimp only at hq; done))) (by (intro hq; first | omega | (dsimp only at hq; omega) | (dsimp only at hq; done))) hw5)
   have HK5 := Lib.hid (HK4.out.trans (hk5.mono (fun q hq => by unfold big; omega)))
   clear HF4 HG4 HK4 hw5 hk5 dt
   obtain ⟨w3', rfl⟩ : ∃ w3', w3' = wr := ⟨_, rfl⟩
   go_loopw [12, 15] (fun b i wr => ∃ (t : Nat), t ≤ r.1.length ∧ i = .int .i64 (t : Int) ∧ b = .bool true ∧ Hid (Below w5.heap.size w5 wr)) (fun _ i _ => r.1.length - (intOf i).toNat)
   case atStart => exact ⟨0, by omega, rfl, rfl, Lib.hid (Below.refl _ _)⟩
   case round =>
    rename_i wr
    obtain ⟨t, ht', rfl, rfl, HB⟩ := hrel
    by_cases htl : t < r.1.length
    ·
     have dt : decide ((t : Int) < (r.1.length : Int)) = true := by simp; omega
     have hti : (t : Int) < (r.1.length : Int) := by omega
     obtain ⟨F, hF⟩ : ∃ F, r.1[t]? = some F := ⟨r.1[t], List.getElem?_eq_getElem htl⟩
     obtain ⟨z, hz1, hz2⟩ := HMS.out.2.1 t F hF
     have hmc : mcK.C wr lA r.1.length ms := Kd.C_below (ow_len HFD.out.l).2.2 HB.out
     obtain ⟨lB, lcB, hlB, _, hlC⟩ := Kd.R_reads HFD.out.r
     rw [List.length_map, Value.slice.injEq] at hlB
     have hdc2 : Kd.C k35 wr lvA r.1.length (r.1.map msgOf) := by rw [hlB.1]; have := Kd.C_below hlC HB.out; rwa [List.length_map] at this
     clear hlB hlC
     have hzr := Rd.keep u8K_K (by decide) (ow_rd (HFD.out.d t _ hz2)) (Kp.below (ts := fun _ => False) (own := o5) HB.out 24) (fun hq => hq)
     dsimp only at hzr
     obtain ⟨zA, zn, zc⟩ := z
     obtain rfl : F.data.length = zn := Kd_C_len hzr.1
     obtain ⟨ad, rfl, k0, k1, k2, k3, k4⟩ := mc_at hmc t htl _ hz1
     obtain ⟨bd, Bd, dd, rfl, j0, j1, j2, j3, j4, _, hrd⟩ := at_T35 hdc2 (t : Int) (by omega) (by omega)
     have hrdM : rd_T35 (r.1.map msgOf) (t : Int) = msgOf F := by
      unfold rd_T35
      rw [Int.toNat_natCast, List.getD_eq_getElem?_getD, List.getElem?_map, hF]
      rfl
     rw [hrdM] at j0 j1 j2 j3 j4 hrd
     rw [Int.toNat_natCast] at j0 j1 j2 j3 j4
     simp only [Sl.enc] at k4
     dsimp only [msgOf] at k0 k1 k2 k3 j0 j1 j2 j3 j4 hrd
     have HRA := Lib.hid hzr.1
     have HRB := Lib.hid hrd
     have HK5 := Lib.hid (And.intro k0 (And.intro k1 (And.intro k2 (And.intro k3 (And.intro k4 (And.intro j0 (And.intro j1 (And.intro j2 (And.intro j3 j4)))))))))
     clear hrd hdc2 hmc hrdM k0 k1 k2 k3 k4 j0 j1 j2 j3 j4 hz1 hz2 hF hzr
     go_wp2_with fail
     refine start_ (n := 10) (S := fun w' => w'.cell? (ad.add (t * 5)) = some (.int .i64 F.kind) ∧ w'.cell? ⟨(ad.add (t * 5)).block, (ad.add (t * 5)).off + 1, none⟩ = some (.int .i64 F.tn) ∧ w'.cell? ⟨(ad.add (t * 5)).block, (ad.add (t * 5)).off + 2, none⟩ = some (.string F.name) ∧ w'.cell? ⟨(ad.add (t * 5)).block, (ad.add (t * 5)).off + 3, none⟩ = some (.int .i64 F.n) ∧ w'.cell? ⟨(ad.add (t * 5)).block, (ad.add (t * 5)).off + 4, none⟩ = some (.slice zA F.data.length zc) ∧ w'.cell? (bd.add (t * 5)) = some (.int .i64 F.kind) ∧ w'.cell? ⟨(bd.add (t * 5)).block, (bd.add (t * 5)).off + 1, none⟩ = some (.int .i64 F.tn) ∧ w'.cell? ⟨(bd.add (t * 5)).block, (bd.add (t * 5)).off + 2, none⟩ = some (.string F.name) ∧ w'.cell? ⟨(bd.add (t * 5)).block, (bd.add (t * 5)).off + 3, none⟩ = some (.int .i64 F.n) ∧ w'.cell? ⟨(bd.add (t * 5)).block, (bd.add (t * 5)).off + 4, none⟩ = some (.slice Bd F.data.length dd)) (ds := [8]) #[false, false, false, false, false, false, false, false, false, false] (by kernel_rfl) rfl rfl HK5.out (fun hHeld => ?_)
     refine pu_ (i := 0) (N := some 72) (v := ?_) (a' := ?_) rfl rfl (by kernel_rfl) (fun _ _ _ h => h) (by rfl) ?_ ?_ ?_
     rotate_left
     · (intro w'; go_simp; with_reducible rfl)
     rotate_left
     · (simp only [put_s, List.set, i64_w, i32_w]; rfl)
     refine pu_ (i := 1) (N := some 73) (v := ?_) (a' := ?_) rfl rfl (by kernel_rfl) (fun _ _ _ h => h) (by rfl) ?_ ?_ ?_
     rotate_left
     · (intro w'; go_simp; with_reducible rfl)
     rotate_left
     · (simp only [put_s, List.set, i64_w, i32_w]; rfl)
     refine pu_ (i := 2) (N := some 74) (v := ?_) (a' := ?_) rfl rfl (by kernel_rfl) (fun _ _ _ h => h) (by rfl) ?_ ?_ ?_
     rotate_left
     · (intro w'; go_simp; with_reducible rfl)
     rotate_left
     · (simp only [put_s, List.set, i64_w, i32_w]; rfl)
     refine tk_ (i := 3) (N := some 75) (v := ?_) (a' := ?_) rfl rfl (by kernel_rfl) (fun _ _ _ h => h) (by rfl) ?_ hHeld ?_ ?_
     rotate_left
     · (intro w' s0; go_simp; with_reducible rfl)
     rotate_left
     · (simp only [put_s, List.set, i64_w, i32_w]; rfl)
     refine pu_ (i := 4) (N := some 76) (v := ?_) (a' := ?_) rfl rfl (by kernel_rfl) (fun _ _ _ h => h) (by rfl) ?_ ?_ ?_
     rotate_left
     · (intro w'; go_simp; with_reducible rfl)
     rotate_left
     · (simp only [put_s, List.set, i64_w, i32_w]; rfl)
     refine pu_ (i := 5) (N := some 77) (v := ?_) (a' := ?_) rfl rfl (by kernel_rfl) (fun _ _ _ h => h) (by rfl) ?_ ?_ ?_
     rotate_left
     · (intro w'; go_simp; with_reducible rfl)
     rotate_left
     · (simp only [put_s, List.set, i64_w, i32_w]; rfl)
     refine pu_ (i := 6) (N := some 78) (v := ?_) (a' := ?_) rfl rfl (by kernel_rfl) (fun _ _ _ h => h) (by rfl) ?_ ?_ ?_
     rotate_left
     · (intro w'; go_simp; with_reducible rfl)
     rotate_left
     · (simp only [put_s, List.set, i64_w, i32_w]; rfl)
     refine tk_ (i := 7) (N := some 79) (v := ?_) (a' := ?_) rfl rfl (by kernel_rfl) (fun _ _ _ h => h) (by rfl) ?_ hHeld ?_ ?_
     rotate_left
     · (intro w' s0; go_simp; with_reducible rfl)
     rotate_left
     · (simp only [put_s, List.set, i64_w, i32_w]; rfl)
     refine la_ (i := 8) (N := some 80) rfl rfl (by kernel_rfl) (by decide) (fun K hK => ?_)
     refine goes_ Try.func14 (by kernel_rfl) rfl #[.agg #[.int .i64 F.kind, .int .i64 F.tn, .string F.name, .int .i64 F.n, .slice zA F.data.length zc], .agg #[.int .i64 F.kind, .int .i64 F.tn, .string F.name, .int .i64 F.n, .slice Bd F.data.length dd]] (by rfl) rfl rfl (by simp [Act.eval]) ?_
     refine Calls.mono (Go.Proofs.Ytpflenaoplblkaa.ProX.same_yes (msgOf F) zA Bd F.data.length F.data.length zc dd _ (BytesAt.below (B := 0) HRA.out (Below.drew (Below.refl _ _))) (BytesAt.below (B := 0) HRB.out (Below.drew (Below.refl _ _)))) ?_
     rintro e w5 ⟨rfl, hb5⟩
     have HB5 := Lib.hid (HB.out.trans (((Below.drew (Below.refl wr.heap.size wr)).trans hb5).mono HB.out.size))
     clear hb5
     refine ⟨_, rfl, ?_⟩
     refine hK.out _ _ ?_
     clear hK K
     refine norm_ (a' := ?_) ?_ ?_
     rotate_left
     ·
      show Act.put _ (some 80) _ = _
      simp only [put_s, List.set, i64_w, i32_w]
      rfl
     refine pu_ (i := 9) (N := some 12) (v := ?_) (a' := ?_) rfl rfl (by kernel_rfl) (fun _ _ _ h => h) (by rfl) ?_ ?_ ?_
     rotate_left
     · (intro w'; go_simp; with_reducible rfl)
     rotate_left
     · (simp only [put_s, List.set, i64_w, i32_w]; rfl)
     refine done_ (by kernel_rfl) ?_
     go_wp2_with fail
     exact ⟨⟨t + 1, by omega, by go_num, rfl, HB5⟩, by simp [intOf]; omega⟩
    ·
     obtain rfl : t = r.1.length := by omega
     have dt : decide (((r.1.length : Nat) : Int) < (r.1.length : Int)) = false := by simp
     have hkb := Kp.below (ts := fun _ => False) (own := o5) HB.out 24
     have HF6 := Lib.hid (HFD.out.keep hkb (fun hq => hq) (fun hq => hq) (fun i hq => hq) (fun hq => hq) (fun hq => hq) (HFD.out.wi.keep (hkb.mono (fun q hq => hq.elim))))
     have HK6 := Lib.hid (HK5.out.trans (hkb.mono (fun q hq => hq.elim)))
     clear hkb HFD HK5 HB
     generalize tagged w5 o5 24 = o6 at HF6 HK6
     have hdl : D.length = r.1.length := by have h1 := congrArg List.length HMS.out.1; have h2 := HMS.out.2.2.1; simp only [List.length_map] at h1; omega
     have hml : ms.length = r.1.length := HMS.out.2.2.1
     have HDX : Hid (∀ q ∈ D, q.2.length ≤ 100000000) := Lib.hid (fun q hq => by
      have h1 : q.2 ∈ D.map (·.2) := List.mem_map.2 ⟨q, hq, rfl⟩
      rw [HMS.out.2.2.2] at h1
      obtain ⟨F, hF, he⟩ := List.mem_map.1 h1
      rw [← he]
      exact HRF.out.2.2.2 F hF)
     have HTM := Lib.hid (takeMessages_ok wr g o6 _ _ ⟨lA, r.1.length, lc⟩ ms D HF6.out.wi HF6.out.l HF6.out.d HMS.out.1 (fun q hq => by have := HDX.out q hq; omega) (by have := HM.out.F; dsimp only; omega) HC.out (by have := HM.out.T; dsimp only; omega) (by dsimp only; omega) (by omega))
     clear hdl hml
     go_wp2_with (first
      | (go_at_call 60; refine Calls.mono HTM.out ?_; rintro e w7 ⟨rfl, o7, v70, v71, v72, v73, cs, c, hcs, hw7, hk7⟩)
      | (go_at_call 55; refine (num_ok _ _).mono ?_; rintro e w' ⟨rfl, rfl⟩))
     go_ret
     have hDl : D.length ≤ 500000 := by have h1 := congrArg List.length HMS.out.1; have h2 := HMS.out.2.2.1; simp only [List.length_map] at h1; omega
     refine ⟨rfl, o7, _, L', _, D, cs, _, c, ms, hw7, hcs, HMS.out.1, hDl, HDX.out, HLEN.out, by have := HE.out.2; simp only [List.length_append, List.length_singleton]; omega, fun q hq => ?_, HK6.out.trans (hk7.mono (fun q hq => by unfold big; omega))⟩
     rcases List.mem_append.1 hq with hq | hq
     · exact .inl (HE.out.1 q hq)
     ·
      simp only [List.mem_singleton] at hq
      subst hq
      exact .inr ⟨fun x hx9 => List.eq_of_mem_replicate hx9, by simp only [List.length_replicate]; omega⟩
end Go.Proofs.Ytpflenaoplblkaa.PaY
end
section
namespace Go.Proofs.Ytpflenaoplblkaa.PaZa
open Go.RowKit YtpflenaoplblkaaW.PrintWords YtpflenaoplblkaaW.PrintLast ProA ProB ProC ProI ProD ProG ProJ ProK ProL ProM ProN ProO ProP ProQ ProR ProU ProZ ProBb PaA
open ProH (msgTab repTab ba)
open ProS PaI PaJ PaK PaL
open PaM PaN PaO PaP PaQ PaR PaS PaT PaU PaV PaWa PaW PaXa PaX PaYa PaYb PaY
set_option linter.unusedVariables false
set_option linter.unusedSimpArgs false
open ProH ProBa
def othS (l : List Int) : List Int := l.map (fun x => Go.bits .xor .u8 x 85)
theorem oth_l0 (l0 : List Int) (hb : l0.length < 140737488355328) : ∀ (k j : Nat), l0.length < k + j → j ≤ l0.length → PProtoAll.arcadelaw12_other.l0 k l0 (othS (l0.take j)) (j : Int) = some (othS l0) := by
 intro k
 induction k with
 | zero => intro j h1 h2; omega
 | succ k ih =>
  intro j h1 h2
  unfold PProtoAll.arcadelaw12_other.l0
  by_cases hj : j < l0.length
  ·
   rw [if_pos (by omega), if_pos (by omega), if_pos (by unfold othS; rw [List.length_map, List.length_take]; omega)]
   have hw : wrap64 ((j : Int) + 1) = ((j + 1 : Nat) : Int) := by
    rw [show ((j : Int) + 1) = ((j + 1 : Nat) : Int) by omega]
    exact IntWalk.wrap64_in _ (by omega)
   have hr : rd l0 (j : Int) = l0[j] := by
    unfold rd
    rw [Int.toNat_natCast, List.getD_eq_getElem?_getD, List.getElem?_eq_getElem hj]
    rfl
   have ht : othS (l0.take j) ++ [Go.bits .xor .u8 (rd l0 (j : Int)) 85] = othS (l0.take (j + 1)) := by
    unfold othS
    rw [List.take_succ_eq_append_getElem hj, List.map_append, hr]
    rfl
   rw [ht, hw]
   exact ih (j + 1) (by omega) (by omega)
  · rw [if_neg (by omega), List.take_of_length_le (by omega)]
theorem oth_f (l0 : List Int) (hb : l0.length < 140737488355328) : PProtoAll.arcadelaw12_other.f (l0.length + 1) l0 = some (othS l0) := by
 have := oth_l0 l0 hb (l0.length + 1) 0 (by omega) (by omega)
 unfold PProtoAll.arcadelaw12_other.f
 simpa [othS] using this
theorem oth_u8 {l : List Int} (h : u8s l) : u8s (othS l) := by
 intro x hx
 obtain ⟨y, hy, rfl⟩ := List.mem_map.1 hx
 have h1 := h y hy
 rw [u8_xor y 85 h1.1 (by omega) (by omega) (by omega)]
 have : y.toNat ^^^ (85 : Int).toNat < 2 ^ 8 := Nat.xor_lt_two_pow (by omega) (by decide)
 omega
theorem oth_len (l : List Int) : (othS l).length = l.length := List.length_map _
theorem other_ok (w : World) (own : Nat → Nat) (z : Sl) (xs : List Int) (t : Nat) (hz : Rd u8K w own t z xs) (hx : xs.length ≤ 10000000) :
  Calls Try.prog 50 #[z.enc] w fun e w' => ∃ z' : Sl, e = .returned z'.enc ∧ Rd u8K w' (tagged w own 27) 27 z' (othS xs) ∧ Below w.heap.size w w' := by
 obtain ⟨A, n, c⟩ := z
 obtain rfl : xs.length = n := Kd_C_len hz.1
 refine (PProtoAll.arcadelaw12_other.calls (xs.length + 1) A c xs (othS xs) w hz.1 hz.2.1 (oth_f xs (by omega))).mono ?_
 rintro e w' ⟨v, rfl, hr, hb⟩
 obtain ⟨A', c', hv, _, _⟩ := Kd.R_reads hr
 obtain ⟨z', rfl⟩ : ∃ z' : Sl, v = z'.enc := ⟨⟨A', _, c'⟩, hv⟩
 exact ⟨z', rfl, ow_rd (ow_new (own := own) 27 hr), hb⟩
def encL (r : Except Int (List Int)) : List Int := match r with | .ok bs => bs | .error _ => []
def encC (r : Except Int (List Int)) : Int := match r with | .ok _ => 0 | .error q => q
theorem enc_post {w : World} {r : Except Int (List Int)} {e : Ending} {w' : World} (h : EncPost w r e w') (own : Nat → Nat) (t : Nat) : ∃ z : Sl, e = .returned (.tuple #[z.enc, .int .i64 (encC r)]) ∧ Ow u8K 5 w' (tagged w own t) t z (encL r) ∧ Below w.heap.size w w' := by
 obtain ⟨v, code, rfl, hb, hc⟩ := h
 cases r with
 | ok bs =>
  obtain ⟨rfl, ho⟩ := hc
  obtain ⟨A', c', hv, _, _⟩ := Kd.R_reads ho
  obtain ⟨z, rfl⟩ : ∃ z : Sl, v = z.enc := ⟨⟨A', _, c'⟩, hv⟩
  exact ⟨z, rfl, ow_new (own := own) t ho, hb⟩
 | error q =>
  obtain ⟨rfl, rfl⟩ := hc
  exact ⟨nilS, rfl, Kd.R_nil _ _ _ _ _, hb⟩
theorem encM_len (M : S35) (h : u8s M.f4) (hl : M.f4.length ≤ 1100000) : (encL (encS msgTab (fldM M))).length ≤ 4000000 := by
 cases he : encS msgTab (fldM M) with
 | error q => simp [encL]
 | ok bs =>
  have := (enc_facts he msgTab_ok msg3 (by decide) h).2
  have e : (fldM M).data = M.f4 := rfl
  rw [e] at this
  simp only [encL]
  omega
theorem encR_len (M : S44) (h : u8s M.f3) (hl : M.f3.length ≤ 1100000) : (encL (encS repTab (fldR M))).length ≤ 4000000 := by
 cases he : encS repTab (fldR M) with
 | error q => simp [encL]
 | ok bs =>
  have := (enc_facts he repTab_ok rep3 (by decide) h).2
  have e : (fldR M).data = M.f3 := rfl
  rw [e] at this
  simp only [encL]
  omega
end Go.Proofs.Ytpflenaoplblkaa.PaZa
end
