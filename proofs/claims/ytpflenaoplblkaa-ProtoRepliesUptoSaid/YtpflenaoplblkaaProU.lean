import Derived.Test.YtpflenaoplblkaaProS
namespace Go.Proofs.Ytpflenaoplblkaa.ProU
open Go.RowKit Go.Proofs.YtpflenaoplblkaaW.PrintWords Go.Proofs.Ytpflenaoplblkaa.ProO Go.Proofs.Ytpflenaoplblkaa.ProR Go.Proofs.Ytpflenaoplblkaa.ProA Go.Proofs.Ytpflenaoplblkaa.ProB Go.Proofs.Ytpflenaoplblkaa.ProC Go.Proofs.Ytpflenaoplblkaa.ProI Go.Proofs.Ytpflenaoplblkaa.ProG Go.Proofs.Ytpflenaoplblkaa.ProH Go.Proofs.Ytpflenaoplblkaa.ProJ Go.Proofs.Ytpflenaoplblkaa.ProL Go.Proofs.Ytpflenaoplblkaa.ProN Go.Proofs.Ytpflenaoplblkaa.ProP Go.Proofs.Ytpflenaoplblkaa.ProQ Go.Proofs.Ytpflenaoplblkaa.ProS
set_option linter.unusedVariables false
set_option linter.unusedSimpArgs false
/-! what is decoded is encoded to the same bytes: plain -/
theorem be_foldl (xs : List Int) : ∀ a : Int, xs.foldl (fun n b => n * 256 + b) a = a * 256 ^ xs.length + be xs := by
  induction xs with
  | nil => intro a; simp [be]
  | cons x l ih =>
    intro a
    simp only [be, List.foldl_cons, List.length_cons]
    rw [ih, ih, Int.pow_succ]
    generalize (256 : Int) ^ l.length = p
    generalize be l = q
    rw [Int.add_mul, Int.mul_assoc, Int.mul_comm 256 p]
    simp
    omega
theorem be_cons (x : Int) (l : List Int) : be (x :: l) = x * 256 ^ l.length + be l := by
  have := be_foldl l x
  simpa [be] using this
theorem be_bd (xs : List Int) (h : u8s xs) : 0 ≤ be xs ∧ be xs < 256 ^ xs.length := by
  have := be_lt h xs.length
  rwa [List.take_length] at this
theorem beB_mod (n a : Int) (k : Nat) : ∀ j, j ≤ k → beB (n + a * 256 ^ k) j = beB n j := by
  intro j
  induction j with
  | zero => intro _; rfl
  | succ j ih =>
    intro h
    simp only [beB]
    rw [ih (by omega)]
    congr 1
    have e : (256 : Int) ^ k = 256 ^ (k - j - 1) * 256 * 256 ^ j := by
      rw [← Int.pow_succ, ← Int.pow_add]
      congr 1
      omega
    have hp : (256 : Int) ^ j ≠ 0 := Int.ne_of_gt (Int.pow_pos (by decide))
    rw [e, ← Int.mul_assoc, Int.add_mul_ediv_right _ _ hp, ← Int.mul_assoc, Int.add_mul_emod_self_right]
theorem beB_be (xs : List Int) (h : u8s xs) : beB (be xs) xs.length = xs := by
  induction xs with
  | nil => rfl
  | cons x l ih =>
    have hx := h x (by simp)
    have hl : u8s l := fun y hy => h y (by simp [hy])
    have hb := be_bd l hl
    have hp : (256 : Int) ^ l.length ≠ 0 := Int.ne_of_gt (Int.pow_pos (by decide))
    rw [be_cons, List.length_cons, beB, Int.add_comm, beB_mod _ _ _ _ (Nat.le_refl _), ih hl, Int.add_mul_ediv_right _ _ hp, Int.ediv_eq_zero_of_lt hb.1 hb.2]
    congr 1
    rw [Int.zero_add]
    exact Int.emod_eq_of_lt hx.1 hx.2
theorem beB_take (xs : List Int) (h : u8s xs) (k : Nat) (hk : k ≤ xs.length) : beB (be (xs.take k)) k = xs.take k := by
  have := beB_be (xs.take k) (fun x hx => h x (List.mem_of_mem_take hx))
  rwa [List.length_take, Nat.min_eq_left hk] at this
theorem bytes_str (xs : List Int) (h : u8s xs) : bytesOf (strOfNums xs) = xs := by
  unfold bytesOf strOfNums
  simp only [List.map_map]
  conv => rhs; rw [← List.map_id xs]
  refine List.map_congr_left fun x hx => ?_
  have := h x hx
  simp
  omega
theorem str_size (xs : List Int) : (strOfNums xs).size = xs.length := by
  rw [← bytesOf_length]
  unfold bytesOf strOfNums
  simp
/-! a field of fields -/
def fdOf : PS → Nat
  | .num .tn _ _ _ => 0
  | .num .n _ _ _ => 1
  | .num .m _ _ _ => 2
  | .name => 3
  | .blob _ => 4
def SameF : Nat → Flds → Flds → Prop
  | 0, F, G => F.tn = G.tn
  | 1, F, G => F.n = G.n
  | 2, F, G => F.m = G.m
  | 3, F, G => F.name = G.name
  | _, F, G => F.data = G.data
theorem SameF.refl (f : Nat) (F : Flds) : SameF f F F := by unfold SameF; split <;> rfl
theorem SameF.trans {f : Nat} {F G H : Flds} (h : SameF f F G) (k : SameF f G H) : SameF f F H := by
  match f, h, k with
  | 0, h, k => exact Eq.trans h k
  | 1, h, k => exact Eq.trans h k
  | 2, h, k => exact Eq.trans h k
  | 3, h, k => exact Eq.trans h k
  | n + 4, h, k => exact Eq.trans h k
theorem rd_other {p : PS} {xs : List Int} {F F' : Flds} {k : Nat} (h : rdS p xs F = some (F', k)) (f : Nat) (hf : f ≠ fdOf p) (hl : f ≤ 4) : SameF f F' F ∧ F'.kind = F.kind := by
  cases p with
  | num o w lo hi =>
    simp only [rdS] at h
    split at h
    · simp only [Option.some.injEq, Prod.mk.injEq] at h
      obtain ⟨rfl, _⟩ := h
      have hf4 : f = 0 ∨ f = 1 ∨ f = 2 ∨ f = 3 ∨ f = 4 := by omega
      cases o <;> rcases hf4 with rfl | rfl | rfl | rfl | rfl <;> simp_all [fdOf, SameF, Fput]
    · cases h
  | name =>
    simp only [rdS] at h
    split at h
    · simp only [Option.some.injEq, Prod.mk.injEq] at h
      obtain ⟨rfl, _⟩ := h
      have hf4 : f = 0 ∨ f = 1 ∨ f = 2 ∨ f = 3 ∨ f = 4 := by omega
      rcases hf4 with rfl | rfl | rfl | rfl | rfl <;> simp_all [fdOf, SameF]
    · cases h
  | blob hi =>
    simp only [rdS] at h
    split at h
    · simp only [Option.some.injEq, Prod.mk.injEq] at h
      obtain ⟨rfl, _⟩ := h
      have hf4 : f = 0 ∨ f = 1 ∨ f = 2 ∨ f = 3 ∨ f = 4 := by omega
      rcases hf4 with rfl | rfl | rfl | rfl | rfl <;> simp_all [fdOf, SameF]
    · cases h
theorem fits_same {p : PS} {F G : Flds} (h : SameF (fdOf p) F G) : fitsS p F = fitsS p G := by
  cases p with
  | num o w lo hi =>
    have : Fget F o = Fget G o := by cases o <;> exact h
    simp only [fitsS]
    rw [this]
  | name =>
    have : F.name = G.name := h
    simp only [fitsS]
    rw [this]
  | blob hi =>
    have : F.data = G.data := h
    simp only [fitsS]
    rw [this]
theorem wr_same {p : PS} {F G : Flds} (h : SameF (fdOf p) F G) : wrS p F = wrS p G := by
  cases p with
  | num o w lo hi => cases o <;> simp_all [fdOf, SameF, wrS, Fget]
  | name => simp_all [fdOf, SameF, wrS]
  | blob hi => simp_all [fdOf, SameF, wrS]
/-- what was read is written as it was -/
theorem rd_wr {p : PS} {xs : List Int} {F F' : Flds} {k : Nat} (h : rdS p xs F = some (F', k)) (hu : u8s xs) : wrS p F' = xs.take k ∧ k ≤ xs.length := by
  cases p with
  | num o w lo hi =>
    simp only [rdS] at h
    split at h
    · rename_i hk
      simp only [Option.some.injEq, Prod.mk.injEq] at h
      obtain ⟨rfl, rfl⟩ := h
      refine ⟨?_, hk⟩
      have : Fget (Fput F o (be (xs.take w))) o = be (xs.take w) := by cases o <;> rfl
      simp only [wrS]
      rw [this, beB_take xs hu w hk]
    · cases h
  | name =>
    simp only [rdS] at h
    split at h
    · rename_i hk
      simp only [Option.some.injEq, Prod.mk.injEq] at h
      obtain ⟨rfl, rfl⟩ := h
      refine ⟨?_, hk.2⟩
      have hul : u8s ((xs.drop 1).take (len1 xs 1)) := fun x hx => hu x (List.mem_of_mem_drop (List.mem_of_mem_take hx))
      simp only [wrS]
      rw [str_size, bytes_str _ hul, List.length_take, List.length_drop, Nat.min_eq_left (by omega), ← len1_eq hu 1, beB_take xs hu 1 hk.1, List.take_add]
    · cases h
  | blob hi =>
    simp only [rdS] at h
    split at h
    · rename_i hk
      simp only [Option.some.injEq, Prod.mk.injEq] at h
      obtain ⟨rfl, rfl⟩ := h
      refine ⟨?_, hk.2⟩
      simp only [wrS]
      rw [List.length_take, List.length_drop, Nat.min_eq_left (by omega), ← len1_eq hu 4, beB_take xs hu 4 hk.1, List.take_add]
    · cases h
theorem dec_other {ps : List PS} : ∀ {xs : List Int} {F0 F : Flds}, decParts ps xs F0 = .ok F → F.kind = F0.kind ∧ ∀ f, f ≤ 4 → f ∉ ps.map fdOf → SameF f F F0 := by
  induction ps with
  | nil =>
    intro xs F0 F h
    simp only [decParts] at h
    split at h
    · injection h with h
      subst h
      exact ⟨rfl, fun f _ _ => SameF.refl f _⟩
    · cases h
  | cons p ps ih =>
    intro xs F0 F h
    simp only [decParts] at h
    cases hr : rdS p xs F0 with
    | none => rw [hr] at h; cases h
    | some r =>
      obtain ⟨F', k⟩ := r
      rw [hr] at h
      simp only at h
      split at h
      · obtain ⟨h1, h2⟩ := ih h
        refine ⟨h1.trans (rd_other hr (if fdOf p = 0 then 1 else 0) (by split <;> omega) (by split <;> omega)).2, fun f hl hf => ?_⟩
        simp only [List.map_cons, List.mem_cons, not_or] at hf
        exact (h2 f hl hf.2).trans (rd_other hr f hf.1 hl).1
      · cases h
theorem dec_enc {ps : List PS} : ∀ {xs : List Int} {F0 F : Flds}, decParts ps xs F0 = .ok F → (ps.map fdOf).Nodup → u8s xs → encParts ps F = some xs := by
  induction ps with
  | nil =>
    intro xs F0 F h hn hu
    simp only [decParts] at h
    split at h
    · rename_i he
      subst he
      rfl
    · cases h
  | cons p ps ih =>
    intro xs F0 F h hn hu
    simp only [decParts] at h
    cases hr : rdS p xs F0 with
    | none => rw [hr] at h; cases h
    | some r =>
      obtain ⟨F', k⟩ := r
      rw [hr] at h
      simp only at h
      split at h
      · rename_i hfit
        rw [List.map_cons, List.nodup_cons] at hn
        have hs : SameF (fdOf p) F F' := (dec_other h).2 (fdOf p) (by cases p with | num o _ _ _ => cases o <;> simp [fdOf] | name => simp [fdOf] | blob _ => simp [fdOf]) hn.1
        obtain ⟨h1, h2⟩ := rd_wr hr hu
        simp only [encParts]
        rw [if_pos (by rw [fits_same hs]; exact hfit), ih h hn.2 (fun x hx => hu x (List.mem_of_mem_drop hx)), wr_same hs, h1]
        simp
      · cases h
theorem cl_this (p : PS) (F : Flds) : SameF (fdOf p) (clS p F) (fd0 0) := by
  cases p with
  | num o _ _ _ => cases o <;> rfl
  | name => rfl
  | blob _ => rfl
theorem cl_other (p : PS) (F : Flds) (f : Nat) (hl : f ≤ 4) (hf : f ≠ fdOf p) : SameF f (clS p F) F := by
  have hf4 : f = 0 ∨ f = 1 ∨ f = 2 ∨ f = 3 ∨ f = 4 := by omega
  cases p with
  | num o _ _ _ => cases o <;> rcases hf4 with rfl | rfl | rfl | rfl | rfl <;> first | rfl | exact absurd rfl hf
  | name => rcases hf4 with rfl | rfl | rfl | rfl | rfl <;> first | rfl | exact absurd rfl hf
  | blob _ => rcases hf4 with rfl | rfl | rfl | rfl | rfl <;> first | rfl | exact absurd rfl hf
theorem clAll_zero (ps : List PS) : ∀ (F : Flds) (f : Nat), f ≤ 4 → (f ∈ ps.map fdOf ∨ SameF f F (fd0 0)) → SameF f (clAll ps F) (fd0 0) := by
  induction ps with
  | nil =>
    intro F f _ h
    rcases h with h | h
    · cases h
    · exact h
  | cons p ps ih =>
    intro F f hl h
    show SameF f (clAll ps (clS p F)) (fd0 0)
    refine ih _ f hl ?_
    by_cases hp : f = fdOf p
    · exact .inr (hp ▸ cl_this p F)
    · rw [List.map_cons, List.mem_cons] at h
      rcases h with (h | h) | h
      · exact absurd h hp
      · exact .inl h
      · exact .inr ((cl_other p F f hl hp).trans h)
theorem empty_of {F : Flds} (h : ∀ f, f ≤ 4 → SameF f F (fd0 0)) : emptyB F F.data.length = true := by
  have h0 : F.tn = 0 := h 0 (by omega)
  have h1 : F.n = 0 := h 1 (by omega)
  have h2 : F.m = 0 := h 2 (by omega)
  have h3 : F.name = ByteArray.empty := h 3 (by omega)
  have h4 : F.data = [] := h 4 (by omega)
  unfold emptyB
  rw [h0, h1, h2, h3, h4]
  have : ByteArray.empty.toList.isEmpty = true := by
    unfold ByteArray.toList ByteArray.toList.loop
    rfl
  rw [this]
  rfl
/-- no field twice -/
def TabNod (tab : List (List PS)) : Prop := ∀ ps ∈ tab, (ps.map fdOf).Nodup
theorem msgTab_nod : TabNod msgTab := by
  intro ps hps
  simp only [msgTab, List.mem_cons, List.not_mem_nil, or_false] at hps
  rcases hps with rfl | rfl | rfl | rfl | rfl | rfl | rfl | rfl <;> decide
theorem repTab_nod : TabNod repTab := by
  intro ps hps
  simp only [repTab, List.mem_cons, List.not_mem_nil, or_false] at hps
  rcases hps with rfl | rfl | rfl | rfl | rfl | rfl | rfl | rfl | rfl | rfl <;> decide
theorem cut_enc {tab : List (List PS)} {b : List Int} {F : Flds} {n : Nat} (h : cutS tab b = .ok (some (F, n))) (hu : u8s b) (hn : TabNod tab) : encS tab F = .ok (b.take n) := by
  unfold cutS at h
  by_cases h1 : b.length < 4
  · rw [if_pos h1] at h; cases h
  rw [if_neg h1] at h
  by_cases h2 : be (b.take 4) < 1 ∨ 262400 < be (b.take 4)
  · rw [if_pos h2] at h; cases h
  rw [if_neg h2] at h
  by_cases h3 : b.length < 4 + len1 b 4
  · rw [if_pos h3] at h; cases h
  rw [if_neg h3] at h
  have hlk := len1_eq hu 4
  generalize hk : len1 b 4 = k at *
  cases hd : decS tab ((b.drop 4).take k) with
  | error q => rw [hd] at h; cases h
  | ok F' =>
    rw [hd] at h
    simp only [Except.ok.injEq, Option.some.injEq, Prod.mk.injEq] at h
    obtain ⟨rfl, rfl⟩ := h
    have hux : u8s ((b.drop 4).take k) := fun x hx => hu x (List.mem_of_mem_drop (List.mem_of_mem_take hx))
    have hxl : ((b.drop 4).take k).length = k := by rw [List.length_take, List.length_drop]; omega
    have hb4 : beB (k : Int) 4 = b.take 4 := by rw [← hlk]; exact beB_take b hu 4 (by omega)
    rw [List.take_add, ← hb4]
    generalize (b.drop 4).take k = xs at hd hux hxl
    unfold decS at hd
    rw [if_neg (by omega)] at hd
    cases xs with
    | nil => simp at hxl; omega
    | cons x l =>
      have hb1 : be ((x :: l).take 1) = x := by simp [be]
      rw [hb1] at hd
      cases ht : tab[x.toNat]? with
      | none => rw [ht] at hd; cases hd
      | some ps =>
        rw [ht] at hd
        simp only at hd
        by_cases hx1 : x < 1
        · rw [if_pos hx1] at hd; cases hd
        rw [if_neg hx1, List.drop_one, List.tail_cons] at hd
        obtain ⟨e1, e2⟩ := dec_other hd
        have hkd : F'.kind = x := e1
        have hlt : x.toNat < tab.length := (List.getElem?_eq_some_iff.1 ht).1
        unfold encS
        rw [hkd, if_neg (by omega), ht]
        simp only
        rw [dec_enc hd (hn ps (List.mem_of_getElem? ht)) (fun y hy => hux y (by simp [hy]))]
        simp only
        rw [if_pos (empty_of fun f hl => clAll_zero ps F' f hl (by
          by_cases hm : f ∈ ps.map fdOf
          · exact .inl hm
          · refine .inr ((e2 f hl hm).trans ?_)
            have hf4 : f = 0 ∨ f = 1 ∨ f = 2 ∨ f = 3 ∨ f = 4 := by omega
            rcases hf4 with rfl | rfl | rfl | rfl | rfl <;> rfl)), hxl]
/-- what is not read stays nothing -/
theorem cut_other {tab : List (List PS)} {b : List Int} {F : Flds} {n : Nat} (h : cutS tab b = .ok (some (F, n))) (f : Nat) (hl : f ≤ 4) (hf : ∀ ps ∈ tab, f ∉ ps.map fdOf) : SameF f F (fd0 0) := by
  unfold cutS at h
  split at h
  · cases h
  split at h
  · cases h
  split at h
  · cases h
  split at h
  · cases h
  · rename_i F' hd
    simp only [Except.ok.injEq, Option.some.injEq, Prod.mk.injEq] at h
    obtain ⟨rfl, _⟩ := h
    unfold decS at hd
    split at hd
    · cases hd
    split at hd
    · cases hd
    · rename_i ps ht
      split at hd
      · cases hd
      · refine ((dec_other hd).2 f hl (hf ps (List.mem_of_getElem? ht))).trans ?_
        have hf4 : f = 0 ∨ f = 1 ∨ f = 2 ∨ f = 3 ∨ f = 4 := by omega
        rcases hf4 with rfl | rfl | rfl | rfl | rfl <;> rfl
theorem cut_msg {b : List Int} {F : Flds} {n : Nat} (h : cutS msgTab b = .ok (some (F, n))) : ProR.fldM (msgOf F) = F := by
  have hm : F.m = 0 := cut_other h 2 (by omega) (by
    intro ps hps
    simp only [msgTab, List.mem_cons, List.not_mem_nil, or_false] at hps
    rcases hps with rfl | rfl | rfl | rfl | rfl | rfl | rfl | rfl <;> decide)
  obtain ⟨a1, a2, a3, a4, a5, a6⟩ := F
  simp only at hm
  subst hm
  rfl
theorem cut_rep {b : List Int} {F : Flds} {n : Nat} (h : cutS repTab b = .ok (some (F, n))) : ProR.fldR (repOf F) = F := by
  have h0 : F.tn = 0 := cut_other h 0 (by omega) (by
    intro ps hps
    simp only [repTab, List.mem_cons, List.not_mem_nil, or_false] at hps
    rcases hps with rfl | rfl | rfl | rfl | rfl | rfl | rfl | rfl | rfl | rfl <;> decide)
  have h3 : F.name = ByteArray.empty := cut_other h 3 (by omega) (by
    intro ps hps
    simp only [repTab, List.mem_cons, List.not_mem_nil, or_false] at hps
    rcases hps with rfl | rfl | rfl | rfl | rfl | rfl | rfl | rfl | rfl | rfl <;> decide)
  obtain ⟨a1, a2, a3, a4, a5, a6⟩ := F
  simp only at h0 h3
  subst h0
  subst h3
  rfl
/-- what Feed gives is encoded to the bytes ahead of what waits -/
def encAll (l : List Flds) : List Int := (l.map fun F => match encS msgTab F with | .ok bs => bs | .error _ => []).flatten
theorem feed_enc : ∀ (k : Nat) (b : List Int), b.length < k → u8s b →
    (∀ F ∈ (feedS msgTab b).1, ∃ bs, encS msgTab F = .ok bs ∧ ProR.fldM (msgOf F) = F) ∧ ((feedS msgTab b).2.1 = 0 → b = encAll (feedS msgTab b).1 ++ (feedS msgTab b).2.2) ∧ ∃ r, b = encAll (feedS msgTab b).1 ++ r := by
  intro k
  induction k with
  | zero => intro b h; omega
  | succ k ih =>
    intro b hl hu
    cases hc : cutS msgTab b with
    | error q =>
      rw [feedS_err hc]
      refine ⟨by simp, fun h0 => ?_, b, by simp [encAll]⟩
      have := cutS_err hc
      simp only at h0
      omega
    | ok r =>
      cases r with
      | none =>
        rw [feedS_wait hc]
        exact ⟨by simp, fun _ => by simp [encAll], b, by simp [encAll]⟩
      | some x =>
        obtain ⟨F, n⟩ := x
        obtain ⟨h1, h2, _⟩ := cutS_some hc
        have he := cut_enc hc hu msgTab_nod
        obtain ⟨i1, i2, r, i3⟩ := ih (b.drop n) (by rw [List.length_drop]; omega) (fun x hx => hu x (List.mem_of_mem_drop hx))
        rw [feedS_step hc]
        have hcons : encAll (F :: (feedS msgTab (b.drop n)).1) = b.take n ++ encAll (feedS msgTab (b.drop n)).1 := by
          simp only [encAll, List.map_cons, List.flatten_cons]
          rw [he]
        refine ⟨?_, ?_, r, ?_⟩
        · intro G hG
          simp only [List.mem_cons] at hG
          rcases hG with rfl | hG
          · exact ⟨_, he, cut_msg hc⟩
          · exact i1 G hG
        · intro h0
          simp only at h0 ⊢
          rw [hcons, List.append_assoc, ← i2 h0, List.take_append_drop]
        · simp only
          rw [hcons, List.append_assoc, ← i3, List.take_append_drop]
end Go.Proofs.Ytpflenaoplblkaa.ProU
