import Derived.Test.YtpflenaoplblkaaProX
import Derived.Test.YtpflenaoplblkaaProV
namespace Go.Proofs.Ytpflenaoplblkaa.ProZ
open Go.RowKit Go.Proofs.YtpflenaoplblkaaW.PrintWords Go.Proofs.Ytpflenaoplblkaa.ProO Go.Proofs.Ytpflenaoplblkaa.ProR Go.Proofs.Ytpflenaoplblkaa.ProA Go.Proofs.Ytpflenaoplblkaa.ProB Go.Proofs.Ytpflenaoplblkaa.ProC Go.Proofs.Ytpflenaoplblkaa.ProI Go.Proofs.Ytpflenaoplblkaa.ProG Go.Proofs.Ytpflenaoplblkaa.ProH Go.Proofs.Ytpflenaoplblkaa.ProJ Go.Proofs.Ytpflenaoplblkaa.ProL Go.Proofs.Ytpflenaoplblkaa.ProN Go.Proofs.Ytpflenaoplblkaa.ProP Go.Proofs.Ytpflenaoplblkaa.ProQ Go.Proofs.Ytpflenaoplblkaa.ProS Go.Proofs.Ytpflenaoplblkaa.ProU Go.Proofs.Ytpflenaoplblkaa.ProV Go.Proofs.Ytpflenaoplblkaa.ProX
set_option linter.unusedVariables false
set_option linter.unusedSimpArgs false
/-! what is encoded is decoded as it was: plain -/
theorem beB_u8 (x : Int) (k : Nat) : u8s (beB x k) := by
  induction k with
  | zero => intro y hy; cases hy
  | succ k ih =>
    intro y hy
    simp only [beB, List.mem_cons] at hy
    rcases hy with rfl | hy
    · exact ⟨Int.emod_nonneg _ (by decide), Int.emod_lt_of_pos _ (by decide)⟩
    · exact ih y hy
theorem be_beB (k : Nat) : ∀ x : Int, 0 ≤ x → x < 256 ^ k → be (beB x k) = x := by
  induction k with
  | zero => intro x h0 h1; simp at h1; simp [beB, be]; omega
  | succ k ih =>
    intro x h0 h1
    have hp : (0 : Int) < 256 ^ k := Int.pow_pos (by decide)
    have hdm := Int.emod_add_mul_ediv x (256 ^ k)
    have h2 : beB x k = beB (x % 256 ^ k) k := by
      conv => lhs; rw [← hdm, Int.mul_comm]
      exact beB_mod _ _ k k (Nat.le_refl _)
    rw [beB, be_cons, beB_len, h2, ih _ (Int.emod_nonneg _ (by omega)) (Int.emod_lt_of_pos _ hp)]
    have h3 : x / 256 ^ k < 256 := Int.ediv_lt_of_lt_mul hp (by rw [Int.mul_comm, ← Int.pow_succ]; exact h1)
    have h4 : 0 ≤ x / 256 ^ k := Int.ediv_nonneg h0 (by omega)
    rw [Int.emod_eq_of_lt h4 h3, Int.mul_comm]
    omega
theorem str_bytes (s : ByteArray) : strOfNums (bytesOf s) = s := by
  unfold strOfNums bytesOf
  have : (s.data.toList.map fun b => (b.toNat : Int)).map (fun n => UInt8.ofNat n.toNat) = s.data.toList := by
    rw [List.map_map]
    conv => rhs; rw [← List.map_id s.data.toList]
    refine List.map_congr_left fun b _ => ?_
    simp
  rw [this]
theorem bytes_u8 (s : ByteArray) : u8s (bytesOf s) := by
  intro x hx
  unfold bytesOf at hx
  obtain ⟨b, _, rfl⟩ := List.mem_map.1 hx
  have := b.toNat_lt
  omega
theorem SameF.symm {f : Nat} {F G : Flds} (h : SameF f F G) : SameF f G F := by
  match f, h with
  | 0, h => exact Eq.symm h
  | 1, h => exact Eq.symm h
  | 2, h => exact Eq.symm h
  | 3, h => exact Eq.symm h
  | n + 4, h => exact Eq.symm h
/-- a part whose numbers have room -/
def pgood : PS → Prop
  | .num _ k lo hi => 0 ≤ lo ∧ hi < 256 ^ k
  | .name => True
  | .blob hi => hi < 256 ^ 4
theorem wr_rd {p : PS} {F : Flds} (b : List Int) (F0 : Flds) (hg : pgood p) (hf : fitsS p F = true) : ∃ F', rdS p (wrS p F ++ b) F0 = some (F', (wrS p F).length) ∧ SameF (fdOf p) F' F := by
  cases p with
  | num o k lo hi =>
    simp only [fitsS, Bool.and_eq_true, decide_eq_true_eq] at hf
    obtain ⟨g1, g2⟩ := hg
    have hl : (beB (Fget F o) k).length = k := beB_len _ _
    have hw : (wrS (.num o k lo hi) F).length = k := by simp only [wrS]; exact hl
    have h1 : (wrS (.num o k lo hi) F ++ b).take k = beB (Fget F o) k := by
      simp only [wrS]
      exact List.take_left' hl
    rw [hw]
    simp only [rdS]
    rw [if_pos (by rw [List.length_append, hw]; omega), h1, be_beB k _ (by omega) (by omega)]
    refine ⟨_, rfl, ?_⟩
    cases o <;> rfl
  | name =>
    simp only [fitsS, nameOk, Bool.and_eq_true, decide_eq_true_eq] at hf
    have hl : (beB (F.name.size : Int) 1).length = 1 := beB_len _ _
    have h1 : (wrS .name F ++ b).take 1 = beB (F.name.size : Int) 1 := by
      simp only [wrS]
      rw [List.append_assoc, List.take_left' hl]
    have h2 : len1 (wrS .name F ++ b) 1 = F.name.size := by
      unfold len1
      rw [h1, be_beB 1 _ (by omega) (by omega)]
      simp
    have hw : (wrS .name F).length = 1 + F.name.size := by simp only [wrS]; rw [List.length_append, hl, bytesOf_length]
    have h3 : ((wrS .name F ++ b).drop 1).take F.name.size = bytesOf F.name := by
      simp only [wrS]
      rw [List.append_assoc, List.drop_left' hl, List.take_left' (bytesOf_length _)]
    rw [hw]
    simp only [rdS]
    rw [h2, if_pos (by rw [List.length_append, hw]; omega), h3, str_bytes]
    exact ⟨_, rfl, rfl⟩
  | blob hi =>
    simp only [fitsS, decide_eq_true_eq] at hf
    have hg' : hi < 256 ^ 4 := hg
    have hl : (beB (F.data.length : Int) 4).length = 4 := beB_len _ _
    have h1 : (wrS (.blob hi) F ++ b).take 4 = beB (F.data.length : Int) 4 := by
      simp only [wrS]
      rw [List.append_assoc, List.take_left' hl]
    have h2 : len1 (wrS (.blob hi) F ++ b) 4 = F.data.length := by
      unfold len1
      rw [h1, be_beB 4 _ (by omega) (by omega)]
      simp
    have hw : (wrS (.blob hi) F).length = 4 + F.data.length := by simp only [wrS]; rw [List.length_append, hl]
    have h3 : ((wrS (.blob hi) F ++ b).drop 4).take F.data.length = F.data := by
      simp only [wrS]
      rw [List.append_assoc, List.drop_left' hl, List.take_left]
    rw [hw]
    simp only [rdS]
    rw [h2, if_pos (by rw [List.length_append, hw]; omega), h3]
    exact ⟨_, rfl, rfl⟩
theorem enc_dec {ps : List PS} : ∀ {F F0 : Flds} {body : List Int}, encParts ps F = some body → (∀ p ∈ ps, pgood p) → (ps.map fdOf).Nodup →
    ∃ G, decParts ps body F0 = .ok G ∧ G.kind = F0.kind ∧ (∀ f ∈ ps.map fdOf, SameF f G F) ∧ ∀ f, f ≤ 4 → f ∉ ps.map fdOf → SameF f G F0 := by
  induction ps with
  | nil =>
    intro F F0 body h _ _
    simp only [encParts, Option.some.injEq] at h
    subst h
    exact ⟨F0, by simp [decParts], rfl, by simp, fun f _ _ => SameF.refl f F0⟩
  | cons p ps ih =>
    intro F F0 body h hg hn
    simp only [encParts] at h
    split at h
    · rename_i hfit
      rw [Option.map_eq_some_iff] at h
      obtain ⟨b2, h2, rfl⟩ := h
      rw [List.map_cons, List.nodup_cons] at hn
      obtain ⟨F', hr, hs⟩ := wr_rd b2 F0 (hg p (by simp)) hfit
      obtain ⟨G, i1, i2, i3, i4⟩ := ih (F0 := F') h2 (fun q hq => hg q (by simp [hq])) hn.2
      have hfd : fdOf p ≤ 4 := by cases p with | num o _ _ _ => cases o <;> simp [fdOf] | name => simp [fdOf] | blob _ => simp [fdOf]
      have hk : F'.kind = F0.kind := (rd_other hr (if fdOf p = 0 then 1 else 0) (by split <;> omega) (by split <;> omega)).2
      refine ⟨G, ?_, i2.trans hk, ?_, ?_⟩
      · simp only [decParts]
        rw [hr]
        simp only
        rw [if_pos (by rw [fits_same hs]; exact hfit), List.drop_left' rfl]
        exact i1
      · intro f hf
        rw [List.map_cons, List.mem_cons] at hf
        rcases hf with rfl | hf
        · exact (i4 _ hfd hn.1).trans hs
        · exact i3 f hf
      · intro f hl hf
        rw [List.map_cons, List.mem_cons, not_or] at hf
        exact (i4 f hl hf.2).trans (rd_other hr f hf.1 hl).1
    · cases h
/-- how long a part is at the most -/
def plen : PS → Nat
  | .num _ k _ _ => k
  | .name => 17
  | .blob hi => 4 + hi.toNat
theorem wr_len {p : PS} {F : Flds} (hf : fitsS p F = true) : (wrS p F).length ≤ plen p := by
  cases p with
  | num o k lo hi => simp [wrS, plen, beB_len]
  | name =>
    simp only [fitsS, nameOk, Bool.and_eq_true, decide_eq_true_eq] at hf
    simp only [wrS, plen, List.length_append, beB_len, bytesOf_length]
    omega
  | blob hi =>
    simp only [fitsS, decide_eq_true_eq] at hf
    simp only [wrS, plen, List.length_append, beB_len]
    omega
theorem enc_len {ps : List PS} : ∀ {F : Flds} {body : List Int}, encParts ps F = some body → body.length ≤ (ps.map plen).sum := by
  induction ps with
  | nil => intro F body h; simp only [encParts, Option.some.injEq] at h; subst h; simp
  | cons p ps ih =>
    intro F body h
    simp only [encParts] at h
    split at h
    · rename_i hfit
      rw [Option.map_eq_some_iff] at h
      obtain ⟨b2, h2, rfl⟩ := h
      have := ih h2
      have := wr_len hfit
      rw [List.map_cons, List.sum_cons, List.length_append]
      omega
    · cases h
/-- a table whose frames are decoded again -/
structure TabBack (tab : List (List PS)) : Prop where
  good : ∀ ps ∈ tab, ∀ p ∈ ps, pgood p
  nod : TabNod tab
  len : ∀ ps ∈ tab, (ps.map plen).sum ≤ 262399
  most : tab.length ≤ 256
theorem flds_ext {F G : Flds} (hk : F.kind = G.kind) (h : ∀ f, f ≤ 4 → SameF f F G) : F = G := by
  have h0 : F.tn = G.tn := h 0 (by omega)
  have h1 : F.n = G.n := h 1 (by omega)
  have h2 : F.m = G.m := h 2 (by omega)
  have h3 : F.name = G.name := h 3 (by omega)
  have h4 : F.data = G.data := h 4 (by omega)
  cases F
  cases G
  simp_all
theorem empty_zero {F : Flds} (h : emptyB F F.data.length = true) (f : Nat) (hl : f ≤ 4) : SameF f F (fd0 0) := by
  simp only [emptyB, Bool.and_eq_true, decide_eq_true_eq] at h
  obtain ⟨⟨⟨⟨h0, h1⟩, h2⟩, h3⟩, h4⟩ := h
  have hf4 : f = 0 ∨ f = 1 ∨ f = 2 ∨ f = 3 ∨ f = 4 := by omega
  rcases hf4 with rfl | rfl | rfl | rfl | rfl
  · exact h0
  · exact h1
  · exact h2
  · show F.name = ByteArray.empty
    have h5 : F.name.toList = [] := List.isEmpty_iff.1 h3
    rw [Lib.toList_data] at h5
    have : F.name = ⟨F.name.data⟩ := rfl
    rw [this]
    have h6 : F.name.data = #[] := by simpa using h5
    rw [h6]
    rfl
  · exact List.eq_nil_of_length_eq_zero h4
theorem enc_cut {tab : List (List PS)} {F : Flds} {bs : List Int} (h : encS tab F = .ok bs) (ht : TabBack tab) (c : List Int) : cutS tab (bs ++ c) = .ok (some (F, bs.length)) := by
  unfold encS at h
  by_cases hk : F.kind < 1 ∨ (tab.length : Int) ≤ F.kind
  · rw [if_pos hk] at h; cases h
  rw [if_neg hk] at h
  cases hps : tab[F.kind.toNat]? with
  | none => rw [hps] at h; cases h
  | some ps =>
    rw [hps] at h
    simp only at h
    have hmem := List.mem_of_getElem? hps
    cases hb : encParts ps F with
    | none => rw [hb] at h; cases h
    | some body =>
      rw [hb] at h
      simp only at h
      by_cases he : emptyB (clAll ps F) (clAll ps F).data.length = true
      · rw [if_pos he] at h
        injection h with h
        have hlen := enc_len hb
        have hl2 := ht.len ps hmem
        obtain ⟨G, d1, d2, d3, d4⟩ := enc_dec (F0 := fd0 F.kind) hb (ht.good ps hmem) (ht.nod ps hmem)
        have hGF : G = F := flds_ext d2 (fun f hl => by
          by_cases hm : f ∈ ps.map fdOf
          · exact d3 f hm
          · have hz := empty_zero he f hl
            have hs := clAll_same ps F f hl hm
            refine (d4 f hl hm).trans ?_
            have h5 : SameF f (fd0 F.kind) (fd0 0) := by
              have hf4 : f = 0 ∨ f = 1 ∨ f = 2 ∨ f = 3 ∨ f = 4 := by omega
              rcases hf4 with rfl | rfl | rfl | rfl | rfl <;> rfl
            exact (h5.trans (SameF.symm hz)).trans hs)
        subst hGF
        generalize hN : (G.kind :: body).length = N at h
        have hN1 : N = body.length + 1 := by rw [← hN]; simp
        have hl4 : (beB (N : Int) 4).length = 4 := beB_len _ _
        have hbs : bs.length = 4 + N := by rw [← h, List.length_append, hl4, hN]
        have ht4 : (bs ++ c).take 4 = beB (N : Int) 4 := by rw [← h, List.append_assoc, List.take_left' hl4]
        have hbe : be ((bs ++ c).take 4) = (N : Int) := by rw [ht4]; exact be_beB 4 _ (by omega) (by omega)
        have hl1 : len1 (bs ++ c) 4 = N := by unfold len1; rw [hbe]; simp
        have hdr : ((bs ++ c).drop 4).take N = G.kind :: body := by rw [← h, List.append_assoc, List.drop_left' hl4, List.take_left' hN]
        unfold cutS
        rw [if_neg (by rw [List.length_append]; omega), hbe, if_neg (by omega), hl1, if_neg (by rw [List.length_append]; omega), hdr, hbs]
        have hdec : decS tab (G.kind :: body) = .ok G := by
          unfold decS
          have hb1 : be ((G.kind :: body).take 1) = G.kind := by simp [be]
          rw [if_neg (by simp), hb1, hps]
          simp only
          rw [if_neg (by omega)]
          exact d1
        rw [hdec]
      · rw [if_neg he] at h; cases h
theorem msgTab_back : TabBack msgTab := by
  refine ⟨?_, msgTab_nod, ?_, by decide⟩
  · intro ps hps p hp
    simp only [msgTab, List.mem_cons, List.not_mem_nil, or_false] at hps
    rcases hps with rfl | rfl | rfl | rfl | rfl | rfl | rfl | rfl <;> simp only [List.mem_cons, List.not_mem_nil, or_false] at hp <;> (try rcases hp with rfl | rfl | rfl) <;> (try subst hp) <;> first | trivial | (simp [pgood]; done) | (exact hp.elim)
  · intro ps hps
    simp only [msgTab, List.mem_cons, List.not_mem_nil, or_false] at hps
    rcases hps with rfl | rfl | rfl | rfl | rfl | rfl | rfl | rfl <;> simp [plen]
theorem repTab_back : TabBack repTab := by
  refine ⟨?_, repTab_nod, ?_, by decide⟩
  · intro ps hps p hp
    simp only [repTab, List.mem_cons, List.not_mem_nil, or_false] at hps
    rcases hps with rfl | rfl | rfl | rfl | rfl | rfl | rfl | rfl | rfl | rfl <;> simp only [List.mem_cons, List.not_mem_nil, or_false] at hp <;> (try rcases hp with rfl | rfl) <;> (try subst hp) <;> first | trivial | (simp [pgood]; done) | (exact hp.elim)
  · intro ps hps
    simp only [repTab, List.mem_cons, List.not_mem_nil, or_false] at hps
    rcases hps with rfl | rfl | rfl | rfl | rfl | rfl | rfl | rfl | rfl | rfl <;> simp [plen]
/-- a frame with bytes less waits -/
theorem cut_short {tab : List (List PS)} {bs : List Int} {F : Flds} (h : cutS tab bs = .ok (some (F, bs.length))) (j : Nat) (hj : j < bs.length) : cutS tab (bs.take j) = .ok none := by
  unfold cutS at h
  by_cases h1 : bs.length < 4
  · rw [if_pos h1] at h; cases h
  rw [if_neg h1] at h
  by_cases h2 : be (bs.take 4) < 1 ∨ 262400 < be (bs.take 4)
  · rw [if_pos h2] at h; cases h
  rw [if_neg h2] at h
  by_cases h3 : bs.length < 4 + len1 bs 4
  · rw [if_pos h3] at h; cases h
  rw [if_neg h3] at h
  have hn : bs.length = 4 + len1 bs 4 := by
    cases hd : decS tab ((bs.drop 4).take (len1 bs 4)) with
    | error q => rw [hd] at h; cases h
    | ok F' =>
      rw [hd] at h
      simp only [Except.ok.injEq, Option.some.injEq, Prod.mk.injEq] at h
      exact h.2.symm
  unfold cutS
  by_cases h4 : (bs.take j).length < 4
  · rw [if_pos h4]
  rw [if_neg h4]
  have hj4 : 4 ≤ j := by rw [List.length_take] at h4; omega
  have ht : (bs.take j).take 4 = bs.take 4 := by rw [List.take_take, Nat.min_eq_left hj4]
  have hl : len1 (bs.take j) 4 = len1 bs 4 := by unfold len1; rw [ht]
  rw [ht, if_neg h2, hl, if_pos (by rw [List.length_take]; omega)]
/-- all frames one behind the other -/
theorem feed_all {tab : List (List PS)} (ht : TabBack tab) : ∀ (l : List Flds) (bss : List (List Int)) (c : List Int), l.map (encS tab) = bss.map .ok → feedS tab (bss.flatten ++ c) = (l ++ (feedS tab c).1, (feedS tab c).2) := by
  intro l
  induction l with
  | nil =>
    intro bss c h
    cases bss with
    | nil => simp
    | cons b bs => simp at h
  | cons F l ih =>
    intro bss c h
    cases bss with
    | nil => simp at h
    | cons b bs =>
      simp only [List.map_cons, List.cons.injEq] at h
      have hc := enc_cut h.1 ht (bs.flatten ++ c)
      rw [List.flatten_cons, List.append_assoc, feedS_step hc, List.drop_left' rfl, ih bs c h.2]
      simp
theorem feed_one {tab : List (List PS)} (ht : TabBack tab) {F : Flds} {b : List Int} (h : encS tab F = .ok b) : feedS tab b = ([F], 0, []) := by
  have := feed_all ht [F] [b] [] (by simp [h])
  have hn : cutS tab [] = .ok none := rfl
  rw [feedS_wait hn] at this
  simpa using this
theorem feed_part {tab : List (List PS)} (ht : TabBack tab) (l : List Flds) (bss : List (List Int)) {F : Flds} {b : List Int} (h : l.map (encS tab) = bss.map .ok) (hb : encS tab F = .ok b) (j : Nat) (hj : j < b.length) :
    feedS tab (bss.flatten ++ b.take j) = (l, 0, b.take j) := by
  have hc := enc_cut hb ht []
  rw [List.append_nil] at hc
  have hs := cut_short hc j hj
  rw [feed_all ht l bss (b.take j) h, feedS_wait hs]
  simp
/-- a kind, told at a world once for all -/
def kAt {α : Type} (d : Kd α) (w0 : World) : Kd α where
  sz := d.sz
  E := []
  K := fun _ => d.K w0
  M := fun _ _ _ => d.K w0
  K_len := fun h => d.K_len h
  K_one := fun h => d.K_one h
  K_below := fun _ h => h
  K_of_M := fun h => h
  M_mono := fun _ h => h
  M_bound := fun h => h
  M_move := fun _ h => h
  M_lower := fun _ h => h
end Go.Proofs.Ytpflenaoplblkaa.ProZ
