/- Texts of Saves: strike -/
import Derived.Test.YtmofiicjaldmiaaGreatDoorMb
namespace Go.Proofs.YtmofiicjaldmiaaGreatDoor.SvX
open Go.RowKit Go.Shelf Go.Proofs.YtmofiicjaldmiaaGreatDoorW.PrintWords Go.Proofs.YtmofiicjaldmiaaGreatDoorW.PrintLast Go.Proofs.YtmofiicjaldmiaaGreatDoor.SvA Go.Proofs.YtmofiicjaldmiaaGreatDoor.SvB Go.Proofs.YtmofiicjaldmiaaGreatDoor.SvC Go.Proofs.YtmofiicjaldmiaaGreatDoor.SvD Go.Proofs.YtmofiicjaldmiaaGreatDoor.SvE Go.Proofs.YtmofiicjaldmiaaGreatDoor.SvF Go.Proofs.YtmofiicjaldmiaaGreatDoor.SvG Go.Proofs.YtmofiicjaldmiaaGreatDoor.SvH Go.Proofs.YtmofiicjaldmiaaGreatDoor.SvI Go.Proofs.YtmofiicjaldmiaaGreatDoor.SvJ Go.Proofs.YtmofiicjaldmiaaGreatDoor.SvK Go.Proofs.YtmofiicjaldmiaaGreatDoor.SvL Go.Proofs.YtmofiicjaldmiaaGreatDoor.SvM Go.Proofs.YtmofiicjaldmiaaGreatDoor.SvN Go.Proofs.YtmofiicjaldmiaaGreatDoor.SvO Go.Proofs.YtmofiicjaldmiaaGreatDoor.SvP Go.Proofs.YtmofiicjaldmiaaGreatDoor.SvQ Go.Proofs.YtmofiicjaldmiaaGreatDoor.SvR Go.Proofs.YtmofiicjaldmiaaGreatDoor.SvS Go.Proofs.YtmofiicjaldmiaaGreatDoor.SvT Go.Proofs.YtmofiicjaldmiaaGreatDoor.SvU Go.Proofs.YtmofiicjaldmiaaGreatDoor.SvV Go.Proofs.YtmofiicjaldmiaaGreatDoor.SvW
set_option linter.unusedVariables false
set_option linter.unusedSimpArgs false
def SV.setE (S : SV) (i : Nat) (es : List EN) : SV := { S with ar := fun j => if j = i then { S.ar j with ents := es } else S.ar j }
abbrev k20 (t : Nat) : Nat → Prop := fun q => t ≤ q ∧ q < t + 20
/-- the entries of an area are turned -/
theorem SvMem.ents {w w' : World} {own own' : Nat → Nat} {t g gs : Nat} {ga : Nat → Nat} {S : SV} (h : SvMem w own t g gs ga S) (i : Nat) (hi : i < 8) {z : Sl} {ps : List EP} {es : List EN} (hk : Kp (fun q => q = t + 4 + i ∨ q = t + 12 + i) w own w' own') (ht : t ≠ 0) (hg : own' (ga i) = t + 4 + i) (hb : Blk w' (ga i) #[.int .i64 ((S.ar i).ten : Int), .int .i64 ((S.ar i).frm : Int), .int .i64 ((S.ar i).sec : Int), .int .i64 ((S.ar i).heads : Int), z.enc] 102) (hs : Ow enK 107 w' own' (t + 12 + i) z ps) (he : Es w' own' ps es) : SvMem w' own' t g gs ga (SV.setE S i es) := by
  obtain ⟨a1, a2⟩ := h.bk.keep hk (by rw [h.og]; omega)
  refine ⟨a2.trans h.og, a1, h.st.keep hk (by omega) (by omega) (by omega) (by omega), fun j hj => ?_⟩
  unfold SV.setE
  dsimp only
  by_cases hji : j = i
  · subst hji
    rw [if_pos rfl]
    exact ⟨z, ps, hg, hb, hs, he⟩
  · rw [if_neg hji]
    exact (h.ar j hj).keep hk (by omega) (by omega) (by omega)
theorem map_erase {α β : Type} (f : α → β) : ∀ (l : List α) (k : Nat), (l.eraseIdx k).map f = (l.map f).eraseIdx k
  | [], _ => rfl
  | x :: l, 0 => rfl
  | x :: l, k + 1 => by simp only [List.eraseIdx_cons_succ, List.map_cons, map_erase f l k]
/-- strike, plain -/
def strikeS (S : SV) (i k : Nat) (e : EN) : SV × Bool := match layH (S.ar i) e 0 S.b with
  | (b, false) => (SV.setB S b, false)
  | (b, true) => (SV.setE (SV.setB S b) i ((S.ar i).ents.eraseIdx k), true)
def StrikeP (w : World) (own : Nat → Nat) (t g gs : Nat) (ga : Nat → Nat) (n : Nat) (r : SV × Bool) (e : Ending) (w' : World) : Prop :=
  e = .returned (if r.2 then .nilIface else refusedV) ∧ BOk r.1.b ∧ r.1.b.n = n ∧ ∃ own', SvMem w' own' t g gs ga r.1 ∧ Kp (k20 t) w own w' own'
/-- what strike reads -/
def StS (ga gb k : Nat) (z : Sl) (x : EP) (w : World) : Prop := w.cell? ⟨ga, 4, none⟩ = some (.slice z.A z.n z.c) ∧ w.cell? ⟨gb, k * 8, none⟩ = some (.int .i64 x.en.hd.ten) ∧ w.cell? ⟨gb, k * 8 + 1, none⟩ = some (.string x.en.hd.name) ∧ w.cell? ⟨gb, k * 8 + 2, none⟩ = some (.int .u32 x.en.hd.ver) ∧ w.cell? ⟨gb, k * 8 + 3, none⟩ = some (.int .i64 x.en.hd.size) ∧
    w.cell? ⟨gb, k * 8 + 4, none⟩ = some (.int .u32 x.en.hd.sum) ∧ w.cell? ⟨gb, k * 8 + 5, none⟩ = some (.int .i64 x.en.hd.first) ∧ w.cell? ⟨gb, k * 8 + 6, none⟩ = some (.int .i64 x.en.at_)
theorem stS {w : World} {own : Nat → Nat} {te ga gb n c k : Nat} {ps : List EP} {x : EP} {c0 c1 c2 c3 : Value} (hb : Blk w ga #[c0, c1, c2, c3, (Sl.mk (some ⟨gb, 0, none⟩) n c).enc] 102) (hs : Ow enK 107 w own te ⟨some ⟨gb, 0, none⟩, n, c⟩ ps) (hx : ps[k]? = some x) : StS ga gb k ⟨some ⟨gb, 0, none⟩, n, c⟩ x w := by
  have hk : k < n := by have := (List.getElem?_eq_some_iff.1 hx).1; rw [(ow_len hs).1] at this; exact this
  obtain ⟨e0, e1, e2, e3, e4, e5, e6, e7⟩ := en_at (ow_len hs).2.2 gb rfl k hk x hx
  exact ⟨Blk.cell (i := 4) hb rfl, e0, e1, e2, e3, e4, e5, e6⟩
theorem SvMem.setB_self {w : World} {own : Nat → Nat} {t g gs : Nat} {ga : Nat → Nat} {S : SV} (h : SvMem w own t g gs ga S) : SvMem w own t g gs ga (SV.setB S S.b) := h
set_option maxRecDepth 100000 in
set_option maxHeartbeats 1000000 in
theorem strike_ok (w : World) (own : Nat → Nat) (t g gs : Nat) (ga : Nat → Nat) (S : SV) (H : SvMem w own t g gs ga S) (ht : t ≠ 0) (i : Nat) (hi : i < 8) (hS : BOk S.b) (ha : (S.ar i).frm + (S.ar i).sec ≤ S.b.n) (k : Nat) (e : EN) (hk : (S.ar i).ents[k]? = some e) (hh : e.hd.ok) (hat : 0 ≤ e.at_ ∧ e.at_ < ((S.ar i).sec : Int)) (hp : S.b.pend.length < 2 ^ 39) (hl40 : (S.ar i).ents.length < 2 ^ 30) :
    Calls Tryz.prog 57 #[pt g, pt (ga i), .int .i64 (k : Int)] w (StrikeP w own t g gs ga S.b.n (strikeS S i k e)) := by
  obtain ⟨z, ps, hg, hb, hs, he⟩ := H.ar i hi
  have hpl : ps.length = (S.ar i).ents.length := by rw [← he.1, List.length_map]
  have hkl : k < ps.length := by rw [hpl]; exact (List.getElem?_eq_some_iff.1 hk).1
  obtain ⟨x, hx⟩ : ∃ x, ps[k]? = some x := ⟨_, List.getElem?_eq_getElem hkl⟩
  have hxe : x.en = e := by
    have h1 : (ps.map (·.en))[k]? = some x.en := by rw [List.getElem?_map, hx]; rfl
    rw [he.1, hk] at h1
    injection h1 with h1
    exact h1.symm
  subst hxe
  obtain ⟨gb, hgb⟩ := ow_head hs (by rw [← (ow_len hs).1]; omega)
  obtain ⟨A, n, c⟩ := z
  injection hgb with hgb _ _
  subst hgb
  have hn : ps.length = n := (ow_len hs).1
  obtain ⟨m, rfl⟩ : ∃ m, n = k + m + 1 := ⟨n - k - 1, by omega⟩
  have hS0 := stS hb hs hx
  have hkn : (k : Int) < ((k + m + 1 : Nat) : Int) := by omega
  have hkn2 : (k : Int) < (k : Int) + (m : Int) + 1 := by omega
  have hk0 : (0 : Int) ≤ (k : Int) := by omega
  have hk40 : k < 2 ^ 30 := by omega
  have HH := Lib.hid H
  have HB := Lib.hid hb
  have HO := Lib.hid hs
  have HE := Lib.hid he
  have HX := Lib.hid hx
  have HG := Lib.hid hg
  have hcm : c ≤ maxLen := by obtain ⟨_, _, cur, _, _, h, _⟩ := ow_cells hs; exact h
  have hnc : k + m + 1 ≤ c := (ow_len hs).2.1
  clear H hb hs he hx hg hpl hkl
  obtain ⟨⟨⟨x1, x2, x3, x4, x5, x6⟩, x7, xs⟩, ⟨x8, x9, x10⟩⟩ := x
  dsimp only at *
  obtain ⟨at_, rfl⟩ := Int.eq_ofNat_of_zero_le hat.1
  have hvn : (S.ar i).frm + at_ < S.b.n := by have := hat.2; omega
  by_cases hful : S.b.full = true
  · go_enter Tryz.func57, Tryz.ntmps57
    go_upto_region 1 with (fail)
    refine start_ (n := 21) (S := StS (ga i) gb k ⟨some ⟨gb, 0, none⟩, k + m + 1, c⟩ ⟨⟨⟨x1, x2, x3, x4, x5, x6⟩, (at_ : Int), xs⟩, ⟨x8, x9, x10⟩⟩) (ds := []) #[false, false, false, false, false, false, false, false, false, false, false, false, false, false, false, false, false, false, false, false, false] (by kernel_rfl) rfl rfl hS0 (fun hHeld => ?_)
    refine pure_ (i := 0) (N := some 8) (v := ?_) (a' := ?_) #[true, false, false, false, false, false, false, false, false, false, false, false, false, false, false, false, false, false, false, false, false] rfl rfl (by kernel_rfl) (fun _ _ _ h => h) (Or.inl ⟨by rfl, ?_⟩) ?_ ?_
    rotate_left
    · intro w'
      go_simp
      with_reducible rfl
    rotate_left
    · simp only [Act.put, List.setIfInBounds_toArray, List.set_cons_zero, List.set_cons_succ, i64_w, i32_w]
      rfl
    refine pure_ (i := 1) (N := some 9) (v := ?_) (a' := ?_) #[true, true, false, false, false, false, false, false, false, false, false, false, false, false, false, false, false, false, false, false, false] rfl rfl (by kernel_rfl) (fun _ _ _ h => h) (Or.inl ⟨by rfl, ?_⟩) ?_ ?_
    rotate_left
    · intro w'
      go_simp
      with_reducible rfl
    rotate_left
    · simp only [Act.put, List.setIfInBounds_toArray, List.set_cons_zero, List.set_cons_succ, i64_w, i32_w]
      rfl
    refine pure_ (i := 2) (N := some 10) (v := ?_) (a' := ?_) #[true, true, true, false, false, false, false, false, false, false, false, false, false, false, false, false, false, false, false, false, false] rfl rfl (by kernel_rfl) (fun _ _ _ h => h) (Or.inl ⟨by rfl, ?_⟩) ?_ ?_
    rotate_left
    · intro w'
      go_simp
      with_reducible rfl
    rotate_left
    · simp only [Act.put, List.setIfInBounds_toArray, List.set_cons_zero, List.set_cons_succ, i64_w, i32_w]
      rfl
    refine pure_ (i := 3) (N := some 11) (v := ?_) (a' := ?_) #[true, true, true, true, false, false, false, false, false, false, false, false, false, false, false, false, false, false, false, false, false] rfl rfl (by kernel_rfl) (fun _ _ _ h => h) (Or.inl ⟨by rfl, ?_⟩) ?_ ?_
    rotate_left
    · intro w'
      go_simp
      with_reducible rfl
    rotate_left
    · simp only [Act.put, List.setIfInBounds_toArray, List.set_cons_zero, List.set_cons_succ, i64_w, i32_w]
      rfl
    refine pure_ (i := 4) (N := some 12) (v := ?_) (a' := ?_) #[true, true, true, true, true, false, false, false, false, false, false, false, false, false, false, false, false, false, false, false, false] rfl rfl (by kernel_rfl) (fun _ _ _ h => h) (Or.inl ⟨by rfl, ?_⟩) ?_ ?_
    rotate_left
    · intro w'
      go_simp
      with_reducible rfl
    rotate_left
    · simp only [Act.put, List.setIfInBounds_toArray, List.set_cons_zero, List.set_cons_succ, i64_w, i32_w]
      rfl
    refine take_ (i := 5) (N := some 13) (v := ?_) (a' := ?_) #[true, true, true, true, true, true, false, false, false, false, false, false, false, false, false, false, false, false, false, false, false] rfl rfl (by kernel_rfl) (fun _ _ _ h => h) (Or.inl ⟨by rfl, ?_⟩) hHeld ?_ ?_
    rotate_left
    · intro w' s0
      obtain ⟨q0, q1, q2, q3, q4, q5, q6, q7⟩ := s0; dsimp only at q0 q1 q2 q3 q4 q5 q6 q7
      go_simp
      with_reducible rfl
    rotate_left
    · simp only [Act.put, List.setIfInBounds_toArray, List.set_cons_zero, List.set_cons_succ, i64_w, i32_w]
      rfl
    refine pure_ (i := 6) (N := some 14) (v := ?_) (a' := ?_) #[true, true, true, true, true, true, true, false, false, false, false, false, false, false, false, false, false, false, false, false, false] rfl rfl (by kernel_rfl) (fun _ _ _ h => h) (Or.inl ⟨by rfl, ?_⟩) ?_ ?_
    rotate_left
    · intro w'
      go_simp
      with_reducible rfl
    rotate_left
    · simp only [Act.put, List.setIfInBounds_toArray, List.set_cons_zero, List.set_cons_succ, i64_w, i32_w]
      rfl
    refine pure_ (i := 7) (N := some 15) (v := ?_) (a' := ?_) #[true, true, true, true, true, true, true, true, false, false, false, false, false, false, false, false, false, false, false, false, false] rfl rfl (by kernel_rfl) (fun _ _ _ h => h) (Or.inl ⟨by rfl, ?_⟩) ?_ ?_
    rotate_left
    · intro w'
      go_simp
      with_reducible rfl
    rotate_left
    · simp only [Act.put, List.setIfInBounds_toArray, List.set_cons_zero, List.set_cons_succ, i64_w, i32_w]
      rfl
    refine pure_ (i := 8) (N := some 16) (v := ?_) (a' := ?_) #[true, true, true, true, true, true, true, true, true, false, false, false, false, false, false, false, false, false, false, false, false] rfl rfl (by kernel_rfl) (fun _ _ _ h => h) (Or.inl ⟨by rfl, ?_⟩) ?_ ?_
    rotate_left
    · intro w'
      go_simp
      with_reducible rfl
    rotate_left
    · simp only [Act.put, List.setIfInBounds_toArray, List.set_cons_zero, List.set_cons_succ, i64_w, i32_w]
      rfl
    refine take_ (i := 9) (N := some 17) (v := ?_) (a' := ?_) #[true, true, true, true, true, true, true, true, true, true, false, false, false, false, false, false, false, false, false, false, false] rfl rfl (by kernel_rfl) (fun _ _ _ h => h) (Or.inl ⟨by rfl, ?_⟩) hHeld ?_ ?_
    rotate_left
    · intro w' s0
      obtain ⟨q0, q1, q2, q3, q4, q5, q6, q7⟩ := s0; dsimp only at q0 q1 q2 q3 q4 q5 q6 q7
      go_simp
      with_reducible rfl
    rotate_left
    · simp only [Act.put, List.setIfInBounds_toArray, List.set_cons_zero, List.set_cons_succ, i64_w, i32_w]
      rfl
    refine pure_ (i := 10) (N := some 18) (v := ?_) (a' := ?_) #[true, true, true, true, true, true, true, true, true, true, true, false, false, false, false, false, false, false, false, false, false] rfl rfl (by kernel_rfl) (fun _ _ _ h => h) (Or.inl ⟨by rfl, ?_⟩) ?_ ?_
    rotate_left
    · intro w'
      go_simp
      with_reducible rfl
    rotate_left
    · simp only [Act.put, List.setIfInBounds_toArray, List.set_cons_zero, List.set_cons_succ, i64_w, i32_w]
      rfl
    refine pure_ (i := 11) (N := some 19) (v := ?_) (a' := ?_) #[true, true, true, true, true, true, true, true, true, true, true, true, false, false, false, false, false, false, false, false, false] rfl rfl (by kernel_rfl) (fun _ _ _ h => h) (Or.inl ⟨by rfl, ?_⟩) ?_ ?_
    rotate_left
    · intro w'
      go_simp
      with_reducible rfl
    rotate_left
    · simp only [Act.put, List.setIfInBounds_toArray, List.set_cons_zero, List.set_cons_succ, i64_w, i32_w]
      rfl
    refine pure_ (i := 12) (N := some 20) (v := ?_) (a' := ?_) #[true, true, true, true, true, true, true, true, true, true, true, true, true, false, false, false, false, false, false, false, false] rfl rfl (by kernel_rfl) (fun _ _ _ h => h) (Or.inl ⟨by rfl, ?_⟩) ?_ ?_
    rotate_left
    · intro w'
      go_simp
      with_reducible rfl
    rotate_left
    · simp only [Act.put, List.setIfInBounds_toArray, List.set_cons_zero, List.set_cons_succ, i64_w, i32_w]
      rfl
    refine take_ (i := 13) (N := some 21) (v := ?_) (a' := ?_) #[true, true, true, true, true, true, true, true, true, true, true, true, true, true, false, false, false, false, false, false, false] rfl rfl (by kernel_rfl) (fun _ _ _ h => h) (Or.inl ⟨by rfl, ?_⟩) hHeld ?_ ?_
    rotate_left
    · intro w' s0
      obtain ⟨q0, q1, q2, q3, q4, q5, q6, q7⟩ := s0; dsimp only at q0 q1 q2 q3 q4 q5 q6 q7
      go_simp
      with_reducible rfl
    rotate_left
    · simp only [Act.put, List.setIfInBounds_toArray, List.set_cons_zero, List.set_cons_succ, i64_w, i32_w]
      rfl
    refine pure_ (i := 14) (N := some 22) (v := ?_) (a' := ?_) #[true, true, true, true, true, true, true, true, true, true, true, true, true, true, true, false, false, false, false, false, false] rfl rfl (by kernel_rfl) (fun _ _ _ h => h) (Or.inl ⟨by rfl, ?_⟩) ?_ ?_
    rotate_left
    · intro w'
      go_simp
      with_reducible rfl
    rotate_left
    · simp only [Act.put, List.setIfInBounds_toArray, List.set_cons_zero, List.set_cons_succ, i64_w, i32_w]
      rfl
    refine pure_ (i := 15) (N := some 23) (v := ?_) (a' := ?_) #[true, true, true, true, true, true, true, true, true, true, true, true, true, true, true, true, false, false, false, false, false] rfl rfl (by kernel_rfl) (fun _ _ _ h => h) (Or.inl ⟨by rfl, ?_⟩) ?_ ?_
    rotate_left
    · intro w'
      go_simp
      with_reducible rfl
    rotate_left
    · simp only [Act.put, List.setIfInBounds_toArray, List.set_cons_zero, List.set_cons_succ, i64_w, i32_w]
      rfl
    refine pure_ (i := 16) (N := some 24) (v := ?_) (a' := ?_) #[true, true, true, true, true, true, true, true, true, true, true, true, true, true, true, true, true, false, false, false, false] rfl rfl (by kernel_rfl) (fun _ _ _ h => h) (Or.inl ⟨by rfl, ?_⟩) ?_ ?_
    rotate_left
    · intro w'
      go_simp
      with_reducible rfl
    rotate_left
    · simp only [Act.put, List.setIfInBounds_toArray, List.set_cons_zero, List.set_cons_succ, i64_w, i32_w]
      rfl
    refine take_ (i := 17) (N := some 25) (v := ?_) (a' := ?_) #[true, true, true, true, true, true, true, true, true, true, true, true, true, true, true, true, true, true, false, false, false] rfl rfl (by kernel_rfl) (fun _ _ _ h => h) (Or.inl ⟨by rfl, ?_⟩) hHeld ?_ ?_
    rotate_left
    · intro w' s0
      obtain ⟨q0, q1, q2, q3, q4, q5, q6, q7⟩ := s0; dsimp only at q0 q1 q2 q3 q4 q5 q6 q7
      go_simp
      with_reducible rfl
    rotate_left
    · simp only [Act.put, List.setIfInBounds_toArray, List.set_cons_zero, List.set_cons_succ, i64_w, i32_w]
      rfl
    refine one_ (i := 18) (N := some 26) #[true, true, true, true, true, true, true, true, true, true, true, true, true, true, true, true, true, true, true, false, false] rfl rfl (by kernel_rfl) (by decide) (fun K hK => ?_)
    refine goes_ Tryz.func97 (by kernel_rfl) rfl #[HD.enc ⟨x1, x2, x3, x4, x5, x6⟩, .int .u8 0] (by first | rfl | (simp [Act.eval]; done)) rfl rfl (by unfold HD.enc; first | rfl | (simp [Act.eval]; done)) ?_
    refine Calls.mono (bytes_ok _ ⟨x1, x2, x3, x4, x5, x6⟩ hh 0) ?_
    rintro e w2 ⟨D, rfl, f1, f2, f3⟩
    refine ⟨_, rfl, ?_⟩
    have HK1 := Lib.hid (((Kp.refl (fun _ => False) w own).drew).trans (Kp.below (ts := fun _ => False) (own := own) (w := w.drew) f3 0))
    have HB2 := Lib.hid (HB.out.keep HK1.out (fun q => q))
    have HO2 := Lib.hid (HO.out.keep HK1.out (fun q => q))
    refine hK.out _ _ (stS HB2.out.1 HO2.out HX.out) (fun hHeld => ?_)
    clear hK K
    have HH2 := Lib.hid (HH.out.keep HK1.out (fun q => q) (fun _ _ _ q => q))
    have HA1 := Lib.hid (ar_c1 (HH2.out.ar i hi))
    refine norm_ (a' := ?_) ?_ ?_
    rotate_left
    · show Act.put _ (some 26) _ = _
      simp only [Act.put, List.setIfInBounds_toArray, List.set_cons_zero, List.set_cons_succ, i64_w, i32_w]
      rfl
    refine one_ (i := 19) (N := some 27) #[true, true, true, true, true, true, true, true, true, true, true, true, true, true, true, true, true, true, true, true, false] rfl rfl (by kernel_rfl) (by decide) (fun K hK => ?_)
    refine goes_ Tryz.func95 (by kernel_rfl) rfl #[pt g, pt (ga i), .int .i64 (at_ : Int), .slice D 512 512] (by first | rfl | (simp [Act.eval]; done)) rfl rfl (by first | rfl | (simp [Act.eval]; done)) ?_
    refine Calls.mono (swrite_full w2 _ t gs S.b HH2.out.st g (ga i) (S.ar i).frm at_ HH2.out.c0 HA1.out.2.1 hvn hS.fit D 512 hful) ?_
    rintro e w3 ⟨rfl, kk, rfl⟩
    refine ⟨_, rfl, ?_⟩
    refine hK.out _ _ hHeld (fun hHeld => ?_)
    clear hK K
    refine norm_ (a' := ?_) ?_ ?_
    rotate_left
    · show Act.put _ (some 27) _ = _
      simp only [Act.put, List.setIfInBounds_toArray, List.set_cons_zero, List.set_cons_succ, i64_w, i32_w]
      rfl
    refine pure_ (i := 20) (N := some 7) (v := ?_) (a' := ?_) #[true, true, true, true, true, true, true, true, true, true, true, true, true, true, true, true, true, true, true, true, true] rfl rfl (by kernel_rfl) (fun _ _ _ h => h) (Or.inl ⟨by rfl, ?_⟩) ?_ ?_
    rotate_left
    · intro w'
      go_simp
      with_reducible rfl
    rotate_left
    · simp only [Act.put, List.setIfInBounds_toArray, List.set_cons_zero, List.set_cons_succ, i64_w, i32_w]
      rfl
    refine done_ (by kernel_rfl) ?_
    have HF := Lib.hid (HH2.out.drewN kk)
    have HKF := Lib.hid (show Kp (k20 t) w own (w2.drewN kk) _ from (HK1.out.mono (fun _ h => h.elim)).trans ⟨rfl, rfl, rfl, Nat.le_refl _, fun _ _ _ => ⟨rfl, rfl⟩⟩)
    have HST := Lib.hid (show strikeS S i k ⟨⟨x1, x2, x3, x4, x5, x6⟩, (at_ : Int), xs⟩ = (S, false) by unfold strikeS layH; rw [if_pos hful]; rfl)
    clear hHeld f1 f2 f3 hS0 hful
    unfold refusedV
    go_wp2_with fail
    go_ret
    unfold StrikeP
    rw [HST.out]
    exact ⟨rfl, hS, rfl, _, HF.out, HKF.out⟩
  · go_enter Tryz.func57, Tryz.ntmps57
    go_upto_region 1 with (fail)
    have hful : S.b.full = false := by cases hb : S.b.full with | false => rfl | true => exact absurd hb hful
    refine start_ (n := 21) (S := StS (ga i) gb k ⟨some ⟨gb, 0, none⟩, k + m + 1, c⟩ ⟨⟨⟨x1, x2, x3, x4, x5, x6⟩, (at_ : Int), xs⟩, ⟨x8, x9, x10⟩⟩) (ds := []) #[false, false, false, false, false, false, false, false, false, false, false, false, false, false, false, false, false, false, false, false, false] (by kernel_rfl) rfl rfl hS0 (fun hHeld => ?_)
    refine pure_ (i := 0) (N := some 8) (v := ?_) (a' := ?_) #[true, false, false, false, false, false, false, false, false, false, false, false, false, false, false, false, false, false, false, false, false] rfl rfl (by kernel_rfl) (fun _ _ _ h => h) (Or.inl ⟨by rfl, ?_⟩) ?_ ?_
    rotate_left
    · intro w'
      go_simp
      with_reducible rfl
    rotate_left
    · simp only [Act.put, List.setIfInBounds_toArray, List.set_cons_zero, List.set_cons_succ, i64_w, i32_w]
      rfl
    refine pure_ (i := 1) (N := some 9) (v := ?_) (a' := ?_) #[true, true, false, false, false, false, false, false, false, false, false, false, false, false, false, false, false, false, false, false, false] rfl rfl (by kernel_rfl) (fun _ _ _ h => h) (Or.inl ⟨by rfl, ?_⟩) ?_ ?_
    rotate_left
    · intro w'
      go_simp
      with_reducible rfl
    rotate_left
    · simp only [Act.put, List.setIfInBounds_toArray, List.set_cons_zero, List.set_cons_succ, i64_w, i32_w]
      rfl
    refine pure_ (i := 2) (N := some 10) (v := ?_) (a' := ?_) #[true, true, true, false, false, false, false, false, false, false, false, false, false, false, false, false, false, false, false, false, false] rfl rfl (by kernel_rfl) (fun _ _ _ h => h) (Or.inl ⟨by rfl, ?_⟩) ?_ ?_
    rotate_left
    · intro w'
      go_simp
      with_reducible rfl
    rotate_left
    · simp only [Act.put, List.setIfInBounds_toArray, List.set_cons_zero, List.set_cons_succ, i64_w, i32_w]
      rfl
    refine pure_ (i := 3) (N := some 11) (v := ?_) (a' := ?_) #[true, true, true, true, false, false, false, false, false, false, false, false, false, false, false, false, false, false, false, false, false] rfl rfl (by kernel_rfl) (fun _ _ _ h => h) (Or.inl ⟨by rfl, ?_⟩) ?_ ?_
    rotate_left
    · intro w'
      go_simp
      with_reducible rfl
    rotate_left
    · simp only [Act.put, List.setIfInBounds_toArray, List.set_cons_zero, List.set_cons_succ, i64_w, i32_w]
      rfl
    refine pure_ (i := 4) (N := some 12) (v := ?_) (a' := ?_) #[true, true, true, true, true, false, false, false, false, false, false, false, false, false, false, false, false, false, false, false, false] rfl rfl (by kernel_rfl) (fun _ _ _ h => h) (Or.inl ⟨by rfl, ?_⟩) ?_ ?_
    rotate_left
    · intro w'
      go_simp
      with_reducible rfl
    rotate_left
    · simp only [Act.put, List.setIfInBounds_toArray, List.set_cons_zero, List.set_cons_succ, i64_w, i32_w]
      rfl
    refine take_ (i := 5) (N := some 13) (v := ?_) (a' := ?_) #[true, true, true, true, true, true, false, false, false, false, false, false, false, false, false, false, false, false, false, false, false] rfl rfl (by kernel_rfl) (fun _ _ _ h => h) (Or.inl ⟨by rfl, ?_⟩) hHeld ?_ ?_
    rotate_left
    · intro w' s0
      obtain ⟨q0, q1, q2, q3, q4, q5, q6, q7⟩ := s0; dsimp only at q0 q1 q2 q3 q4 q5 q6 q7
      go_simp
      with_reducible rfl
    rotate_left
    · simp only [Act.put, List.setIfInBounds_toArray, List.set_cons_zero, List.set_cons_succ, i64_w, i32_w]
      rfl
    refine pure_ (i := 6) (N := some 14) (v := ?_) (a' := ?_) #[true, true, true, true, true, true, true, false, false, false, false, false, false, false, false, false, false, false, false, false, false] rfl rfl (by kernel_rfl) (fun _ _ _ h => h) (Or.inl ⟨by rfl, ?_⟩) ?_ ?_
    rotate_left
    · intro w'
      go_simp
      with_reducible rfl
    rotate_left
    · simp only [Act.put, List.setIfInBounds_toArray, List.set_cons_zero, List.set_cons_succ, i64_w, i32_w]
      rfl
    refine pure_ (i := 7) (N := some 15) (v := ?_) (a' := ?_) #[true, true, true, true, true, true, true, true, false, false, false, false, false, false, false, false, false, false, false, false, false] rfl rfl (by kernel_rfl) (fun _ _ _ h => h) (Or.inl ⟨by rfl, ?_⟩) ?_ ?_
    rotate_left
    · intro w'
      go_simp
      with_reducible rfl
    rotate_left
    · simp only [Act.put, List.setIfInBounds_toArray, List.set_cons_zero, List.set_cons_succ, i64_w, i32_w]
      rfl
    refine pure_ (i := 8) (N := some 16) (v := ?_) (a' := ?_) #[true, true, true, true, true, true, true, true, true, false, false, false, false, false, false, false, false, false, false, false, false] rfl rfl (by kernel_rfl) (fun _ _ _ h => h) (Or.inl ⟨by rfl, ?_⟩) ?_ ?_
    rotate_left
    · intro w'
      go_simp
      with_reducible rfl
    rotate_left
    · simp only [Act.put, List.setIfInBounds_toArray, List.set_cons_zero, List.set_cons_succ, i64_w, i32_w]
      rfl
    refine take_ (i := 9) (N := some 17) (v := ?_) (a' := ?_) #[true, true, true, true, true, true, true, true, true, true, false, false, false, false, false, false, false, false, false, false, false] rfl rfl (by kernel_rfl) (fun _ _ _ h => h) (Or.inl ⟨by rfl, ?_⟩) hHeld ?_ ?_
    rotate_left
    · intro w' s0
      obtain ⟨q0, q1, q2, q3, q4, q5, q6, q7⟩ := s0; dsimp only at q0 q1 q2 q3 q4 q5 q6 q7
      go_simp
      with_reducible rfl
    rotate_left
    · simp only [Act.put, List.setIfInBounds_toArray, List.set_cons_zero, List.set_cons_succ, i64_w, i32_w]
      rfl
    refine pure_ (i := 10) (N := some 18) (v := ?_) (a' := ?_) #[true, true, true, true, true, true, true, true, true, true, true, false, false, false, false, false, false, false, false, false, false] rfl rfl (by kernel_rfl) (fun _ _ _ h => h) (Or.inl ⟨by rfl, ?_⟩) ?_ ?_
    rotate_left
    · intro w'
      go_simp
      with_reducible rfl
    rotate_left
    · simp only [Act.put, List.setIfInBounds_toArray, List.set_cons_zero, List.set_cons_succ, i64_w, i32_w]
      rfl
    refine pure_ (i := 11) (N := some 19) (v := ?_) (a' := ?_) #[true, true, true, true, true, true, true, true, true, true, true, true, false, false, false, false, false, false, false, false, false] rfl rfl (by kernel_rfl) (fun _ _ _ h => h) (Or.inl ⟨by rfl, ?_⟩) ?_ ?_
    rotate_left
    · intro w'
      go_simp
      with_reducible rfl
    rotate_left
    · simp only [Act.put, List.setIfInBounds_toArray, List.set_cons_zero, List.set_cons_succ, i64_w, i32_w]
      rfl
    refine pure_ (i := 12) (N := some 20) (v := ?_) (a' := ?_) #[true, true, true, true, true, true, true, true, true, true, true, true, true, false, false, false, false, false, false, false, false] rfl rfl (by kernel_rfl) (fun _ _ _ h => h) (Or.inl ⟨by rfl, ?_⟩) ?_ ?_
    rotate_left
    · intro w'
      go_simp
      with_reducible rfl
    rotate_left
    · simp only [Act.put, List.setIfInBounds_toArray, List.set_cons_zero, List.set_cons_succ, i64_w, i32_w]
      rfl
    refine take_ (i := 13) (N := some 21) (v := ?_) (a' := ?_) #[true, true, true, true, true, true, true, true, true, true, true, true, true, true, false, false, false, false, false, false, false] rfl rfl (by kernel_rfl) (fun _ _ _ h => h) (Or.inl ⟨by rfl, ?_⟩) hHeld ?_ ?_
    rotate_left
    · intro w' s0
      obtain ⟨q0, q1, q2, q3, q4, q5, q6, q7⟩ := s0; dsimp only at q0 q1 q2 q3 q4 q5 q6 q7
      go_simp
      with_reducible rfl
    rotate_left
    · simp only [Act.put, List.setIfInBounds_toArray, List.set_cons_zero, List.set_cons_succ, i64_w, i32_w]
      rfl
    refine pure_ (i := 14) (N := some 22) (v := ?_) (a' := ?_) #[true, true, true, true, true, true, true, true, true, true, true, true, true, true, true, false, false, false, false, false, false] rfl rfl (by kernel_rfl) (fun _ _ _ h => h) (Or.inl ⟨by rfl, ?_⟩) ?_ ?_
    rotate_left
    · intro w'
      go_simp
      with_reducible rfl
    rotate_left
    · simp only [Act.put, List.setIfInBounds_toArray, List.set_cons_zero, List.set_cons_succ, i64_w, i32_w]
      rfl
    refine pure_ (i := 15) (N := some 23) (v := ?_) (a' := ?_) #[true, true, true, true, true, true, true, true, true, true, true, true, true, true, true, true, false, false, false, false, false] rfl rfl (by kernel_rfl) (fun _ _ _ h => h) (Or.inl ⟨by rfl, ?_⟩) ?_ ?_
    rotate_left
    · intro w'
      go_simp
      with_reducible rfl
    rotate_left
    · simp only [Act.put, List.setIfInBounds_toArray, List.set_cons_zero, List.set_cons_succ, i64_w, i32_w]
      rfl
    refine pure_ (i := 16) (N := some 24) (v := ?_) (a' := ?_) #[true, true, true, true, true, true, true, true, true, true, true, true, true, true, true, true, true, false, false, false, false] rfl rfl (by kernel_rfl) (fun _ _ _ h => h) (Or.inl ⟨by rfl, ?_⟩) ?_ ?_
    rotate_left
    · intro w'
      go_simp
      with_reducible rfl
    rotate_left
    · simp only [Act.put, List.setIfInBounds_toArray, List.set_cons_zero, List.set_cons_succ, i64_w, i32_w]
      rfl
    refine take_ (i := 17) (N := some 25) (v := ?_) (a' := ?_) #[true, true, true, true, true, true, true, true, true, true, true, true, true, true, true, true, true, true, false, false, false] rfl rfl (by kernel_rfl) (fun _ _ _ h => h) (Or.inl ⟨by rfl, ?_⟩) hHeld ?_ ?_
    rotate_left
    · intro w' s0
      obtain ⟨q0, q1, q2, q3, q4, q5, q6, q7⟩ := s0; dsimp only at q0 q1 q2 q3 q4 q5 q6 q7
      go_simp
      with_reducible rfl
    rotate_left
    · simp only [Act.put, List.setIfInBounds_toArray, List.set_cons_zero, List.set_cons_succ, i64_w, i32_w]
      rfl
    refine one_ (i := 18) (N := some 26) #[true, true, true, true, true, true, true, true, true, true, true, true, true, true, true, true, true, true, true, false, false] rfl rfl (by kernel_rfl) (by decide) (fun K hK => ?_)
    refine goes_ Tryz.func97 (by kernel_rfl) rfl #[HD.enc ⟨x1, x2, x3, x4, x5, x6⟩, .int .u8 0] (by first | rfl | (simp [Act.eval]; done)) rfl rfl (by unfold HD.enc; first | rfl | (simp [Act.eval]; done)) ?_
    refine Calls.mono (bytes_ok _ ⟨x1, x2, x3, x4, x5, x6⟩ hh 0) ?_
    rintro e w2 ⟨D, rfl, f1, f2, f3⟩
    refine ⟨_, rfl, ?_⟩
    have HK1 := Lib.hid (((Kp.refl (fun _ => False) w own).drew).trans (Kp.below (ts := fun _ => False) (own := own) (w := w.drew) f3 0))
    have HB2 := Lib.hid (HB.out.keep HK1.out (fun q => q))
    have HO2 := Lib.hid (HO.out.keep HK1.out (fun q => q))
    refine hK.out _ _ (stS HB2.out.1 HO2.out HX.out) (fun hHeld => ?_)
    clear hK K
    have HH2 := Lib.hid (HH.out.keep HK1.out (fun q => q) (fun _ _ _ q => q))
    have HA1 := Lib.hid (ar_c1 (HH2.out.ar i hi))
    refine norm_ (a' := ?_) ?_ ?_
    rotate_left
    · show Act.put _ (some 26) _ = _
      simp only [Act.put, List.setIfInBounds_toArray, List.set_cons_zero, List.set_cons_succ, i64_w, i32_w]
      rfl
    refine one_ (i := 19) (N := some 27) #[true, true, true, true, true, true, true, true, true, true, true, true, true, true, true, true, true, true, true, true, false] rfl rfl (by kernel_rfl) (by decide) (fun K hK => ?_)
    refine goes_ Tryz.func95 (by kernel_rfl) rfl #[pt g, pt (ga i), .int .i64 (at_ : Int), .slice D 512 512] (by first | rfl | (simp [Act.eval]; done)) rfl rfl (by first | rfl | (simp [Act.eval]; done)) ?_
    refine Calls.mono (swrite_ok w2 _ t gs S.b HH2.out.st g (ga i) (S.ar i).frm at_ HH2.out.c0 HA1.out.2.1 hvn hS.fit D 512 (headS ⟨x1, x2, x3, x4, x5, x6⟩ 0) ht 0 (by omega) ⟨f1, Nat.le_refl _, fun a ha hn => tagged_new (f2 a ha)⟩ hful) ?_
    rintro e w3 ⟨rfl, o3, g1, g2⟩
    refine ⟨_, rfl, ?_⟩
    have hk3 : Kp (k3 t) w2 _ w3 o3 := g2.mono (fun q h => by rcases h with h | h; exact .inl h; exact .inr (.inr h))
    have HB3 := Lib.hid (HB2.out.1.keep hk3 (by rw [HB2.out.2, HG.out]; rintro (h | h | h) <;> omega))
    have HO3 := Lib.hid (HO2.out.keep hk3 (by rintro (h | h | h) <;> omega))
    refine hK.out _ _ (stS HB3.out.1 HO3.out HX.out) (fun hHeld => ?_)
    clear hK K
    refine norm_ (a' := ?_) ?_ ?_
    rotate_left
    · show Act.put _ (some 27) _ = _
      simp only [Act.put, List.setIfInBounds_toArray, List.set_cons_zero, List.set_cons_succ, i64_w, i32_w]
      rfl
    refine pure_ (i := 20) (N := some 7) (v := ?_) (a' := ?_) #[true, true, true, true, true, true, true, true, true, true, true, true, true, true, true, true, true, true, true, true, true] rfl rfl (by kernel_rfl) (fun _ _ _ h => h) (Or.inl ⟨by rfl, ?_⟩) ?_ ?_
    rotate_left
    · intro w'
      go_simp
      with_reducible rfl
    rotate_left
    · simp only [Act.put, List.setIfInBounds_toArray, List.set_cons_zero, List.set_cons_succ, i64_w, i32_w]
      rfl
    refine done_ (by kernel_rfl) ?_
    have HM3 := Lib.hid (SvMem.store HH2.out ht g1 hk3)
    have hok3 := BOk.put hS hvn (headS_ok hh (f := 0) (by omega)).1 (headS_ok hh (f := 0) (by omega)).2 (by omega)
    have c0 := HM3.out.c0
    have HSY := Lib.hid (sync_ok w3 o3 t gs _ g1 hok3.fit.hz hok3.fit.hp ht hok3.ok)
    have HOK := Lib.hid hok3
    have HK3 := Lib.hid hk3
    have HST := Lib.hid (show strikeS S i k ⟨⟨x1, x2, x3, x4, x5, x6⟩, (at_ : Int), xs⟩ = (SV.setE (SV.setB S (BS.sync (S.b.put (((S.ar i).frm + at_ : Nat) : Int) (headS ⟨x1, x2, x3, x4, x5, x6⟩ 0)))) i ((S.ar i).ents.eraseIdx k), true) by unfold strikeS layH; rw [if_neg (by rw [hful]; decide)]; rfl)
    clear hHeld f1 f2 f3 hS0 hful g1 g2 hk3 hok3
    generalize hbb : S.b.put (((S.ar i).frm + at_ : Nat) : Int) (headS ⟨x1, x2, x3, x4, x5, x6⟩ 0) = b1 at *
    have HN := Lib.hid (show b1.n = S.b.n by rw [← hbb]; rfl)
    clear hbb
    go_upto_region 5 with (go_at_call 89; refine HSY.out.mono ?_; rintro e w4 ⟨rfl, o4, g1, g2⟩)
    have HM4 := Lib.hid (SvMem.store HM3.out ht g1 g2)
    have HB4 := Lib.hid (HB3.out.1.keep g2 (by rw [HB3.out.2, HB2.out.2, HG.out]; rintro (h | h | h) <;> omega))
    have HO4 := Lib.hid (HO3.out.keep g2 (by rintro (h | h | h) <;> omega))
    have HE4 := Lib.hid (((HE.out.keep HK1.out (fun q => q)).keep HK3.out (by rintro (h | h | h) <;> omega)).keep g2 (by rintro (h | h | h) <;> omega))
    have HG4 := Lib.hid (show o4 (ga i) = t + 4 + i by rw [HB4.out.2, HB3.out.2, HB2.out.2, HG.out])
    have HKK := Lib.hid (show Kp (k3 t) w own w4 o4 from ((HK1.out.mono (fun _ h => h.elim)).trans HK3.out).trans g2)
    have d4 : w4.cell? ⟨ga i, 4, none⟩ = some (.slice (some ⟨gb, 0, none⟩) (k + m + 1) c) := Blk.cell (i := 4) HB4.out.1 rfl
    have HDE := Lib.hid (delete_ok w4 o4 (t + 12 + i) gb k m c ps HO4.out)
    clear g1 g2
    go_wp2_with (go_at_call 98; refine HDE.out.mono ?_; rintro e w5 ⟨s, rfl, g3, g4⟩; have HB5 := Lib.hid (HB4.out.1.keep g4 (by rw [HG4.out]; omega)); have d5 : w5.cell? ⟨ga i, 4, none⟩ = some (.slice (some ⟨gb, 0, none⟩) (k + m + 1) c) := Blk.cell (i := 4) HB5.out.1 rfl; have z5 : w5.frozen? ⟨ga i, 4, none⟩ = false := Blk.frozen HB5.out.1; have G3 := Lib.hid g3; have G4 := Lib.hid g4; clear g3 g4 d4)
    go_ret
    have hkA : Kp (fun q => q = t + 4 + i) w5 o4 (w5.setCell ⟨ga i, 4, none⟩ (.slice s.A s.n s.c)) o4 := (Kp.refl _ w5 o4).set _ _ (fun k hk hn e => hn (by rw [e]; exact HG4.out))
    have hkB : Kp (fun q => q = t + 4 + i ∨ q = t + 12 + i) w4 o4 (w5.setCell ⟨ga i, 4, none⟩ (.slice s.A s.n s.c)) o4 := (G4.out.mono (fun q h => .inr h)).trans (hkA.mono (fun q h => .inl h))
    unfold StrikeP
    rw [HST.out]
    refine ⟨rfl, BOk.sync HOK.out, (sync_n HOK.out).trans HN.out, o4, SvMem.ents HM4.out i hi (ps := ps.eraseIdx k) hkB ht HG4.out (Blk.set (i := 4) HB5.out.1 _) (G3.out.keep hkA (by omega)) ⟨?_, fun p hp => ((HE4.out.keep hkB (by omega)).2 p (List.mem_of_mem_eraseIdx hp))⟩, (HKK.out.mono (fun q h => ⟨by rcases h with h | h | h <;> omega, by rcases h with h | h | h <;> omega⟩)).trans (hkB.mono (fun q h => ⟨by rcases h with h | h <;> omega, by rcases h with h | h <;> omega⟩))⟩
    rw [← HE.out.1, map_erase]
end Go.Proofs.YtmofiicjaldmiaaGreatDoor.SvX
namespace Go.Proofs.YtmofiicjaldmiaaGreatDoor.SvY
open Go.RowKit Go.Shelf Go.Proofs.YtmofiicjaldmiaaGreatDoorW.PrintWords Go.Proofs.YtmofiicjaldmiaaGreatDoorW.PrintLast Go.Proofs.YtmofiicjaldmiaaGreatDoor.SvA Go.Proofs.YtmofiicjaldmiaaGreatDoor.SvB Go.Proofs.YtmofiicjaldmiaaGreatDoor.SvC Go.Proofs.YtmofiicjaldmiaaGreatDoor.SvD Go.Proofs.YtmofiicjaldmiaaGreatDoor.SvE Go.Proofs.YtmofiicjaldmiaaGreatDoor.SvF Go.Proofs.YtmofiicjaldmiaaGreatDoor.SvG Go.Proofs.YtmofiicjaldmiaaGreatDoor.SvH Go.Proofs.YtmofiicjaldmiaaGreatDoor.SvI Go.Proofs.YtmofiicjaldmiaaGreatDoor.SvJ Go.Proofs.YtmofiicjaldmiaaGreatDoor.SvK Go.Proofs.YtmofiicjaldmiaaGreatDoor.SvL Go.Proofs.YtmofiicjaldmiaaGreatDoor.SvM Go.Proofs.YtmofiicjaldmiaaGreatDoor.SvN Go.Proofs.YtmofiicjaldmiaaGreatDoor.SvO Go.Proofs.YtmofiicjaldmiaaGreatDoor.SvP Go.Proofs.YtmofiicjaldmiaaGreatDoor.SvQ Go.Proofs.YtmofiicjaldmiaaGreatDoor.SvR Go.Proofs.YtmofiicjaldmiaaGreatDoor.SvS Go.Proofs.YtmofiicjaldmiaaGreatDoor.SvT Go.Proofs.YtmofiicjaldmiaaGreatDoor.SvU Go.Proofs.YtmofiicjaldmiaaGreatDoor.SvV Go.Proofs.YtmofiicjaldmiaaGreatDoor.SvW Go.Proofs.YtmofiicjaldmiaaGreatDoor.SvX
set_option linter.unusedVariables false
set_option linter.unusedSimpArgs false
theorem code_nil (w : World) : Calls Tryz.prog 47 #[.nilIface] w fun e w' => e = .returned (.int .i64 0) ∧ Below w.heap.size w w' := by
  go_enter Tryz.func47, Tryz.ntmps47
  go_wp2_with fail
  go_ret
  exact ⟨rfl, ba _⟩
theorem done_nil (w : World) (own : Nat → Nat) (t g gs : Nat) (ga : Nat → Nat) (S : SV) (H : SvMem w own t g gs ga S) (ht : t ≠ 0) (hd : S.dead = false) : Calls Tryz.prog 58 #[pt g, .nilIface] w fun e w' => e = .returned (.int .i64 0) ∧ ∃ own', SvMem w' own' t g gs ga S ∧ Kp (k20 t) w own w' own' := by
  have cd := H.cd
  rw [hd] at cd
  have zd : w.frozen? ⟨g, 9, none⟩ = false := Blk.frozen H.bk
  have hk : Kp (fun q => q = t + 3) w own (w.setCell ⟨g, 9, none⟩ (.bool false)) own := (Kp.refl _ w own).set _ _ (fun k hk hn e => hn (by rw [e]; exact H.og))
  have hb : Blk (w.setCell ⟨g, 9, none⟩ (.bool false)) g (svCells gs ga S.dead) 93 := by rw [hd]; have := Blk.set (i := 9) H.bk (.bool false); rw [hd] at this; exact this
  have HM := Lib.hid (show SvMem (w.setCell ⟨g, 9, none⟩ (.bool false)) own t g gs ga S from ⟨H.og, hb, H.st.keep hk (by omega) (by omega) (by omega) (by omega), fun i hi => (H.ar i hi).keep hk (by omega) (by omega) (by omega)⟩)
  have HK := Lib.hid hk
  clear hk hb H hd
  go_enter Tryz.func58, Tryz.ntmps58
  go_wp2_with (go_at_call 47; refine (code_nil _).mono ?_; rintro e w2 ⟨rfl, hb⟩)
  go_ret
  exact ⟨rfl, _, HM.out.below hb, (HK.out.mono (fun q h => ⟨by omega, by omega⟩)).trans (Kp.below hb 0)⟩
/-- an area that fits its store -/
structure AOk (S : SV) (i : Nat) : Prop where
  fs : (S.ar i).frm + (S.ar i).sec ≤ S.b.n
  s16 : (S.ar i).sec < 65536
  hs : (S.ar i).heads ≤ (S.ar i).sec
  el : (S.ar i).ents.length < 2 ^ 30
  eo : ∀ e ∈ (S.ar i).ents, e.hd.ok ∧ (0 ≤ e.at_ ∧ e.at_ < ((S.ar i).sec : Int)) ∧ (∀ n ∈ e.secs, 0 ≤ n ∧ n < ((S.ar i).sec : Int)) ∧ e.secs.length < 65536
def usedS (es : List EN) : Nat := (es.map (fun e => 1 + e.secs.length)).sum
theorem usedS_snoc (es : List EN) (e : EN) : usedS (es ++ [e]) = usedS es + (1 + e.secs.length) := by simp [usedS]
theorem usedS_le (es : List EN) (h : ∀ e ∈ es, e.secs.length < 65536) : usedS es ≤ es.length * 65536 := by
  unfold usedS
  induction es with
  | nil => simp
  | cons e es ih =>
    have h1 := ih (fun x hx => h x (List.mem_cons_of_mem _ hx))
    have h2 := h e List.mem_cons_self
    simp only [List.map_cons, List.sum_cons, List.length_cons]
    omega
theorem used_take_le (es : List EN) (n : Nat) (hn : es.length ≤ n) (h : ∀ e ∈ es, e.secs.length < 65536) (k : Nat) : usedS (es.take k) ≤ n * 65536 := by
  have h1 := usedS_le (es.take k) (fun e he => h e (List.mem_of_mem_take he))
  have h2 : (es.take k).length ≤ n := by rw [List.length_take]; omega
  exact Nat.le_trans h1 (Nat.mul_le_mul h2 (Nat.le_refl _))
theorem used_no (w : World) (own : Nat → Nat) (t g gs : Nat) (ga : Nat → Nat) (S : SV) (H : SvMem w own t g gs ga S) (ten : Int) (h : errS S ten ≠ 0) : Calls Tryz.prog 20 #[pt g, .int .i64 ten] w fun e w' => e = .returned (.tuple #[.int .i64 0, .int .i64 (errS S ten)]) ∧ w = w' := by
  have HC := Lib.hid (area_no w own t g gs ga S H ten h)
  have hb2 : (errS S ten != 0) = true := by rw [bne_iff_ne]; exact h
  generalize errS S ten = r at *
  clear H
  go_enter Tryz.func20, Tryz.ntmps20
  go_wp2_with (go_at_call 49; refine HC.out.mono ?_; rintro e w' ⟨rfl, rfl⟩)
  go_ret2
  exact ⟨rfl, rfl⟩
set_option maxRecDepth 100000 in
set_option maxHeartbeats 1000000 in
theorem used_yes (w : World) (own : Nat → Nat) (t g gs : Nat) (ga : Nat → Nat) (S : SV) (H : SvMem w own t g gs ga S) (i : Nat) (hi : i < 8) (hd : S.dead = false) (hA : AOk S i) : Calls Tryz.prog 20 #[pt g, .int .i64 ((i : Int) + 1)] w fun e w' => e = .returned (.tuple #[.int .i64 (usedS (S.ar i).ents : Int), .int .i64 0]) ∧ Below w.heap.size w w' := by
  have HC := Lib.hid (area_yes w own t g gs ga S H i hi hd)
  obtain ⟨z, ps, hg, hb, hs, he⟩ := H.ar i hi
  have c4 : w.cell? ⟨ga i, 4, none⟩ = some (.slice z.A z.n z.c) := Blk.cell (i := 4) hb rfl
  have hpl : ps.length = z.n := (ow_len hs).1
  have hel : (S.ar i).ents.length = z.n := by rw [← he.1, List.length_map]; exact hpl
  have hn30 : z.n < 2 ^ 30 := by rw [← hel]; exact hA.el
  have HL := Lib.hid (fun k => used_take_le (S.ar i).ents z.n (by omega) (fun e h => (hA.eo e h).2.2.2) k)
  have HO := Lib.hid hs
  have HE := Lib.hid he
  have HH := Lib.hid (fun (h : 0 < z.n) => ow_head hs h)
  have HEO := Lib.hid hA.eo
  have HP := Lib.hid hpl
  have HQ := Lib.hid hel
  clear hs he hb hg H hA hd hpl hel
  obtain ⟨A, n, c⟩ := z
  dsimp only at *
  go_enter Tryz.func20, Tryz.ntmps20
  go_wp2_with (go_at_call 49; refine HC.out.mono ?_; rintro e w' ⟨rfl, rfl⟩)
  go_loopw [25, 8, 10] (fun v u _ wr => ∃ k : Nat, k ≤ n ∧ v = .int .i64 (k : Int) ∧ u = .int .i64 (usedS ((S.ar i).ents.take k) : Int) ∧ Below w.heap.size w wr) (fun v _ _ _ => n - (intOf v).toNat)
  case atStart => exact ⟨0, by omega, rfl, rfl, Below.refl _ _⟩
  case round =>
    obtain ⟨k, hk, rfl, rfl, hb⟩ := hrel
    by_cases hlt : k < n
    · have dl : decide ((k : Int) < (n : Int)) = true := by simp; omega
      have hkn : (k : Int) < (n : Int) := by omega
      have hpl := HP.out
      obtain ⟨gb, hz⟩ := HH.out (by omega)
      injection hz with hA _ _
      subst hA
      obtain ⟨x, hx⟩ : ∃ x, ps[k]? = some x := ⟨_, List.getElem?_eq_getElem (by omega)⟩
      obtain ⟨e0, e1, e2, e3, e4, e5, e6, e7⟩ := en_at (Kd.C_below (ow_len HO.out).2.2 hb) gb rfl k hlt x hx
      have hxe : (S.ar i).ents[k]? = some x.en := by rw [← HE.out.1, List.getElem?_map, hx]; rfl
      have hsn : x.sl.n = x.en.secs.length := (HE.out.2 x (List.mem_of_getElem? hx)).1.1.symm
      have hs16 := (HEO.out x.en (List.mem_of_getElem? hxe)).2.2.2
      have HU := Lib.hid (show usedS ((S.ar i).ents.take (k + 1)) = usedS ((S.ar i).ents.take k) + (1 + x.sl.n) by
        have : (S.ar i).ents.take (k + 1) = (S.ar i).ents.take k ++ [x.en] := by
          rw [List.take_succ_eq_append_getElem (List.getElem?_eq_some_iff.1 hxe).1, (List.getElem?_eq_some_iff.1 hxe).2]
        rw [this, usedS_snoc, hsn])
      have hub := HL.out k
      have hs16' : x.sl.n < 65536 := by rw [hsn]; exact hs16
      clear hx hxe hsn hs16 hpl
      obtain ⟨⟨⟨x1, x2, x3, x4, x5, x6⟩, x7, xs⟩, ⟨x8, x9, x10⟩⟩ := x
      dsimp only at *
      generalize hus : usedS ((S.ar i).ents.take k) = u at *
      have HB := Lib.hid (show ∀ o, Below w.heap.size w (wr.alloc o) from fun o => hb.alloc hb.size o)
      clear hb hus
      go_wp2_with fail
      go_roundw
      case rel => exact ⟨k + 1, by omega, by go_num, by rw [HU.out]; first | rfl | (congr 1; omega) | (simp; omega), HB.out _⟩
      case measure => simp [intOf]; omega
    · obtain rfl : k = n := by omega
      have dl : decide ((k : Int) < (k : Int)) = false := by simp
      have hel := HQ.out
      have e1 : (S.ar i).ents.take k = (S.ar i).ents := List.take_of_length_le (by omega)
      rw [e1]
      clear hel e1
      go_wp2_with fail
      go_ret2
      exact ⟨rfl, hb⟩
end Go.Proofs.YtmofiicjaldmiaaGreatDoor.SvY
namespace Go.Proofs.YtmofiicjaldmiaaGreatDoor.SvZ
open Go.RowKit Go.Shelf Go.Proofs.YtmofiicjaldmiaaGreatDoorW.PrintWords Go.Proofs.YtmofiicjaldmiaaGreatDoorW.PrintLast Go.Proofs.YtmofiicjaldmiaaGreatDoor.SvA Go.Proofs.YtmofiicjaldmiaaGreatDoor.SvB Go.Proofs.YtmofiicjaldmiaaGreatDoor.SvC Go.Proofs.YtmofiicjaldmiaaGreatDoor.SvD Go.Proofs.YtmofiicjaldmiaaGreatDoor.SvE Go.Proofs.YtmofiicjaldmiaaGreatDoor.SvF Go.Proofs.YtmofiicjaldmiaaGreatDoor.SvG Go.Proofs.YtmofiicjaldmiaaGreatDoor.SvH Go.Proofs.YtmofiicjaldmiaaGreatDoor.SvI Go.Proofs.YtmofiicjaldmiaaGreatDoor.SvJ Go.Proofs.YtmofiicjaldmiaaGreatDoor.SvK Go.Proofs.YtmofiicjaldmiaaGreatDoor.SvL Go.Proofs.YtmofiicjaldmiaaGreatDoor.SvM Go.Proofs.YtmofiicjaldmiaaGreatDoor.SvN Go.Proofs.YtmofiicjaldmiaaGreatDoor.SvO Go.Proofs.YtmofiicjaldmiaaGreatDoor.SvP Go.Proofs.YtmofiicjaldmiaaGreatDoor.SvQ Go.Proofs.YtmofiicjaldmiaaGreatDoor.SvR Go.Proofs.YtmofiicjaldmiaaGreatDoor.SvS Go.Proofs.YtmofiicjaldmiaaGreatDoor.SvT Go.Proofs.YtmofiicjaldmiaaGreatDoor.SvU Go.Proofs.YtmofiicjaldmiaaGreatDoor.SvV Go.Proofs.YtmofiicjaldmiaaGreatDoor.SvW Go.Proofs.YtmofiicjaldmiaaGreatDoor.SvX Go.Proofs.YtmofiicjaldmiaaGreatDoor.SvY
set_option linter.unusedVariables false
set_option linter.unusedSimpArgs false
/-- what Get leaves when it finds the save -/
def GetP (w : World) (data : List Int) (e : Ending) (w' : World) : Prop := ∃ (z : Sl) (o : Nat → Nat), e = .returned (.tuple #[z.enc, .int .i64 0]) ∧ Ow u8K 5 w' o 2 z data ∧ (∀ k, k < w.heap.size → o k = 0) ∧ Below w.heap.size w w'
theorem get_no (w : World) (own : Nat → Nat) (t g gs : Nat) (ga : Nat → Nat) (S : SV) (H : SvMem w own t g gs ga S) (ten : Int) (name : ByteArray) (hs : name.size < 2 ^ 62) (h : errN S ten name ≠ 0) : Calls Tryz.prog 32 #[pt g, .int .i64 ten, .string name] w fun e w' => e = .returned (.tuple #[.slice none 0 0, .int .i64 (errN S ten name)]) ∧ Below w.heap.size w w' := by
  have HC := Lib.hid (named_no w own t g gs ga S H ten name hs h)
  have hb2 : (errN S ten name != 0) = true := by rw [bne_iff_ne]; exact h
  generalize errN S ten name = r at *
  clear H
  go_enter Tryz.func32, Tryz.ntmps32
  go_wp2_with (go_at_call 50; refine HC.out.mono ?_; rintro e w' ⟨rfl, hb⟩)
  go_ret2
  exact ⟨rfl, hb⟩
theorem get_none (w : World) (own : Nat → Nat) (t g gs : Nat) (ga : Nat → Nat) (S : SV) (H : SvMem w own t g gs ga S) (i : Nat) (hi : i < 8) (name : ByteArray) (hs : name.size < 2 ^ 62) (hd : S.dead = false) (hok : nameOk name = true) (hl : (S.ar i).ents.length < 2 ^ 40) (hf : findI (fun e => e.hd.name == name) (S.ar i).ents < 0) :
    Calls Tryz.prog 32 #[pt g, .int .i64 ((i : Int) + 1), .string name] w fun e w' => e = .returned (.tuple #[.slice none 0 0, .int .i64 111]) ∧ Below w.heap.size w w' := by
  have HC := Lib.hid (named_yes w own t g gs ga S H i hi name hs hd hok hl)
  have hb2 : decide (findI (fun e : EN => e.hd.name == name) (S.ar i).ents < 0) = true := by simp; exact hf
  generalize findI (fun e : EN => e.hd.name == name) (S.ar i).ents = r at *
  clear H hok hd
  go_enter Tryz.func32, Tryz.ntmps32
  go_wp2_with (go_at_call 50; refine HC.out.mono ?_; rintro e w' ⟨rfl, hb⟩)
  go_ret2
  exact ⟨rfl, hb⟩
set_option maxRecDepth 100000 in
set_option maxHeartbeats 1000000 in
theorem get_yes (w : World) (own : Nat → Nat) (t g gs : Nat) (ga : Nat → Nat) (S : SV) (H : SvMem w own t g gs ga S) (i : Nat) (hi : i < 8) (hS : BOk S.b) (ha : (S.ar i).frm + (S.ar i).sec ≤ S.b.n) (name : ByteArray) (hs : name.size < 2 ^ 62) (hd : S.dead = false) (hok : nameOk name = true) (hl : (S.ar i).ents.length < 2 ^ 30) (k : Nat) (hf : findI (fun e => e.hd.name == name) (S.ar i).ents = k) (e : EN) (he : (S.ar i).ents[k]? = some e) (hh : e.hd.ok) :
    Calls Tryz.prog 32 #[pt g, .int .i64 ((i : Int) + 1), .string name] w (GetP w (followS S.b (S.ar i) e.hd).2.1) := by
  have hcn := named_yes w own t g gs ga S H i hi name hs hd hok (by omega)
  rw [hf] at hcn
  have HC := Lib.hid hcn
  have HH := Lib.hid H
  obtain ⟨z, ps, hg, hb, hz, hes⟩ := H.ar i hi
  have hpl : ps.length = (S.ar i).ents.length := by rw [← hes.1, List.length_map]
  have hkl : k < ps.length := by rw [hpl]; exact (List.getElem?_eq_some_iff.1 he).1
  obtain ⟨x, hx⟩ : ∃ x, ps[k]? = some x := ⟨_, List.getElem?_eq_getElem hkl⟩
  have hxe : x.en = e := by
    have h1 : (ps.map (·.en))[k]? = some x.en := by rw [List.getElem?_map, hx]; rfl
    rw [hes.1, he] at h1
    injection h1 with h1
    exact h1.symm
  subst hxe
  obtain ⟨gb, hgb⟩ := ow_head hz (by rw [← (ow_len hz).1]; omega)
  obtain ⟨A, n, c⟩ := z
  injection hgb with hgb _ _
  subst hgb
  have hn : ps.length = n := (ow_len hz).1
  have hkn : (k : Int) < (n : Int) := by omega
  have hk0 : (0 : Int) ≤ (k : Int) := by omega
  have hk40 : k < 2 ^ 30 := by omega
  have HS0 := Lib.hid (fun (W : World) (h : Below w.heap.size w W) => stS ((hb.below h)) (hz.keep (Kp.below (ts := fun _ => False) h 0) (fun q => q)) hx)
  have HF := Lib.hid (fun (W : World) (h : Below w.heap.size w W) => follow_ok W _ t g gs ga S (HH.out.below h) i hi hS ha x.en.hd hh)
  clear hcn H hb hz hes hx he hg hpl hkl hf hn hok hd hl
  obtain ⟨⟨⟨x1, x2, x3, x4, x5, x6⟩, x7, xs⟩, ⟨x8, x9, x10⟩⟩ := x
  dsimp only at *
  generalize hdt : (followS S.b (S.ar i) ⟨x1, x2, x3, x4, x5, x6⟩).2.1 = data at *
  generalize (followS S.b (S.ar i) ⟨x1, x2, x3, x4, x5, x6⟩).1 = d1 at *
  generalize (followS S.b (S.ar i) ⟨x1, x2, x3, x4, x5, x6⟩).2.2 = d2 at *
  clear hdt
  go_enter Tryz.func32, Tryz.ntmps32
  go_wp2_with (first | (go_at_call 50; refine HC.out.mono ?_; rintro e w1 ⟨rfl, hb⟩; obtain ⟨q0, q1, q2, q3, q4, q5, q6, q7⟩ := HS0.out w1 hb; dsimp only at q0 q1 q2 q3 q4 q5 q6 q7) | (go_at_call 65; refine Calls.mono (HF.out w1 hb) ?_; rintro e w2 ⟨zs, zd, o, rfl, f1, f2, f3, f4⟩; unfold Sl.enc))
  go_ret2
  exact ⟨zd, o, rfl, f2, fun k hk => f3 k (Nat.lt_of_lt_of_le hk hb.size), hb.trans (f4.mono hb.size)⟩
theorem delete_no (w : World) (own : Nat → Nat) (t g gs : Nat) (ga : Nat → Nat) (S : SV) (H : SvMem w own t g gs ga S) (ten : Int) (name : ByteArray) (hs : name.size < 2 ^ 62) (h : errN S ten name ≠ 0) : Calls Tryz.prog 26 #[pt g, .int .i64 ten, .string name] w fun e w' => e = .returned (.int .i64 (errN S ten name)) ∧ Below w.heap.size w w' := by
  have HC := Lib.hid (named_no w own t g gs ga S H ten name hs h)
  have hb2 : (errN S ten name != 0) = true := by rw [bne_iff_ne]; exact h
  generalize errN S ten name = r at *
  clear H
  go_enter Tryz.func26, Tryz.ntmps26
  go_wp2_with (go_at_call 50; refine HC.out.mono ?_; rintro e w' ⟨rfl, hb⟩)
  go_ret
  exact ⟨rfl, hb⟩
theorem delete_none (w : World) (own : Nat → Nat) (t g gs : Nat) (ga : Nat → Nat) (S : SV) (H : SvMem w own t g gs ga S) (i : Nat) (hi : i < 8) (name : ByteArray) (hs : name.size < 2 ^ 62) (hd : S.dead = false) (hok : nameOk name = true) (hl : (S.ar i).ents.length < 2 ^ 40) (hf : findI (fun e => e.hd.name == name) (S.ar i).ents < 0) :
    Calls Tryz.prog 26 #[pt g, .int .i64 ((i : Int) + 1), .string name] w fun e w' => e = .returned (.int .i64 111) ∧ Below w.heap.size w w' := by
  have HC := Lib.hid (named_yes w own t g gs ga S H i hi name hs hd hok hl)
  have hb2 : decide (findI (fun e : EN => e.hd.name == name) (S.ar i).ents < 0) = true := by simp; exact hf
  generalize findI (fun e : EN => e.hd.name == name) (S.ar i).ents = r at *
  clear H hok hd
  go_enter Tryz.func26, Tryz.ntmps26
  go_wp2_with (go_at_call 50; refine HC.out.mono ?_; rintro e w' ⟨rfl, hb⟩)
  go_ret
  exact ⟨rfl, hb⟩
/-- strike, where nothing is refused -/
def delS (S : SV) (i k : Nat) (e : EN) : SV := SV.setE (SV.setB S (BS.sync (S.b.put (((S.ar i).frm + e.at_.toNat : Nat) : Int) (headS e.hd 0)))) i ((S.ar i).ents.eraseIdx k)
theorem strikeS_ok (S : SV) (i k : Nat) (e : EN) (hf : S.b.full = false) : strikeS S i k e = (delS S i k e, true) := by
  unfold strikeS layH
  rw [if_neg (by rw [hf]; decide)]
  rfl
def ActP (w : World) (own : Nat → Nat) (t g gs : Nat) (ga : Nat → Nat) (n : Nat) (S : SV) (e : Ending) (w' : World) : Prop :=
  e = .returned (.int .i64 0) ∧ BOk S.b ∧ S.b.n = n ∧ ∃ own', SvMem w' own' t g gs ga S ∧ Kp (k20 t) w own w' own'
set_option maxRecDepth 100000 in
theorem delete_yes (w : World) (own : Nat → Nat) (t g gs : Nat) (ga : Nat → Nat) (S : SV) (H : SvMem w own t g gs ga S) (ht : t ≠ 0) (i : Nat) (hi : i < 8) (hS : BOk S.b) (ha : (S.ar i).frm + (S.ar i).sec ≤ S.b.n) (name : ByteArray) (hs : name.size < 2 ^ 62) (hd : S.dead = false) (hok : nameOk name = true) (hl : (S.ar i).ents.length < 2 ^ 30) (k : Nat) (hf : findI (fun e => e.hd.name == name) (S.ar i).ents = k) (e : EN) (he : (S.ar i).ents[k]? = some e) (hh : e.hd.ok) (hat : 0 ≤ e.at_ ∧ e.at_ < ((S.ar i).sec : Int)) (hp : S.b.pend.length < 2 ^ 39) (hfu : S.b.full = false) :
    Calls Tryz.prog 26 #[pt g, .int .i64 ((i : Int) + 1), .string name] w (ActP w own t g gs ga S.b.n (delS S i k e)) := by
  have hcn := named_yes w own t g gs ga S H i hi name hs hd hok (by omega)
  rw [hf] at hcn
  have HC := Lib.hid hcn
  have hk0 : (0 : Int) ≤ (k : Int) := by omega
  have hk40 : k < 2 ^ 30 := by have := (List.getElem?_eq_some_iff.1 he).1; omega
  have HS := Lib.hid (fun (W : World) (h : Below w.heap.size w W) => strike_ok W _ t g gs ga S (H.below h) ht i hi hS ha k e he hh hat hp hl)
  rw [strikeS_ok S i k e hfu] at HS
  have hdd : (delS S i k e).dead = false := hd
  generalize hD : delS S i k e = D at *
  clear hD
  have HD := Lib.hid (fun (W : World) (o : Nat → Nat) (h : SvMem W o t g gs ga D) => done_nil W o t g gs ga D h ht hdd)
  clear hcn hf hok hd hdd H he hh hat hp hfu hs
  go_enter Tryz.func26, Tryz.ntmps26
  go_wp2_with (first | (go_at_call 50; refine HC.out.mono ?_; rintro e w1 ⟨rfl, hb⟩) | (go_at_call 57; refine Calls.mono (HS.out w1 hb) ?_; rintro e w2 ⟨rfl, p1, p2, o2, p3, p4⟩; simp only [if_true]) | (go_at_call 58; refine Calls.mono (HD.out w2 o2 p3) ?_; rintro e w3 ⟨rfl, o3, p5, p6⟩))
  go_ret
  exact ⟨rfl, p1, p2, o3, p5, ((Kp.below hb 0).trans p4).trans p6⟩
end Go.Proofs.YtmofiicjaldmiaaGreatDoor.SvZ
namespace Go.Proofs.YtmofiicjaldmiaaGreatDoor.SwA
open Go.RowKit Go.Shelf Go.Proofs.YtmofiicjaldmiaaGreatDoorW.PrintWords Go.Proofs.YtmofiicjaldmiaaGreatDoorW.PrintLast Go.Proofs.YtmofiicjaldmiaaGreatDoor.SvA Go.Proofs.YtmofiicjaldmiaaGreatDoor.SvB Go.Proofs.YtmofiicjaldmiaaGreatDoor.SvC Go.Proofs.YtmofiicjaldmiaaGreatDoor.SvD Go.Proofs.YtmofiicjaldmiaaGreatDoor.SvE Go.Proofs.YtmofiicjaldmiaaGreatDoor.SvF Go.Proofs.YtmofiicjaldmiaaGreatDoor.SvG Go.Proofs.YtmofiicjaldmiaaGreatDoor.SvH Go.Proofs.YtmofiicjaldmiaaGreatDoor.SvI Go.Proofs.YtmofiicjaldmiaaGreatDoor.SvJ Go.Proofs.YtmofiicjaldmiaaGreatDoor.SvK Go.Proofs.YtmofiicjaldmiaaGreatDoor.SvL Go.Proofs.YtmofiicjaldmiaaGreatDoor.SvM Go.Proofs.YtmofiicjaldmiaaGreatDoor.SvN Go.Proofs.YtmofiicjaldmiaaGreatDoor.SvO Go.Proofs.YtmofiicjaldmiaaGreatDoor.SvP Go.Proofs.YtmofiicjaldmiaaGreatDoor.SvQ Go.Proofs.YtmofiicjaldmiaaGreatDoor.SvR Go.Proofs.YtmofiicjaldmiaaGreatDoor.SvS Go.Proofs.YtmofiicjaldmiaaGreatDoor.SvT Go.Proofs.YtmofiicjaldmiaaGreatDoor.SvU Go.Proofs.YtmofiicjaldmiaaGreatDoor.SvV Go.Proofs.YtmofiicjaldmiaaGreatDoor.SvW Go.Proofs.YtmofiicjaldmiaaGreatDoor.SvX Go.Proofs.YtmofiicjaldmiaaGreatDoor.SvY Go.Proofs.YtmofiicjaldmiaaGreatDoor.SvZ
set_option linter.unusedVariables false
set_option linter.unusedSimpArgs false
def freeH (a : AR) : List Int := (freeS (fun n : Nat => a.ents.any (fun e => e.at_ == (n : Int))) 0 a.heads 1).map (fun n : Nat => (n : Int))
def freeD (a : AR) (m : Nat) : List Int := (freeS (fun n : Nat => a.ents.any (fun e => e.secs.contains (n : Int))) a.heads a.sec m).map (fun n : Nat => (n : Int))
/-- a fresh row of numbers -/
structure NewI (w w' : World) (s : Sl) (xs : List Int) : Prop where
  below : Below w.heap.size w w'
  len : s.n = xs.length
  cap : s.n ≤ s.c
  c : i64K.C w' s.A s.n xs
  hd : 0 < s.n → ∃ b, s.A = some ⟨b, 0, none⟩ ∧ w.heap.size ≤ b
def FreeQ (w : World) (xs : List Int) (e : Ending) (w' : World) : Prop := ∃ s : Sl, e = .returned s.enc ∧ NewI w w' s xs
theorem freeP_q {w : World} {xs : List Int} {e : Ending} {w' : World} (h : FreeP w xs e w') : FreeQ w xs e w' := by
  obtain ⟨s, o, he, ho, hk⟩ := h
  obtain ⟨l1, l2, l3⟩ := ow_len ho
  refine ⟨s, he, kp_below hk (by omega), l1.symm, l2, l3, fun hn => ?_⟩
  obtain ⟨gb, hg⟩ := ow_head ho hn
  have hA : s.A = some ⟨gb, 0, none⟩ := by rw [hg]
  have hb := ow_blk_of ho _ hA
  refine ⟨gb, hA, ?_⟩
  have h1 := (ow_blk ho _ hb).1
  rcases Nat.lt_or_ge gb w.heap.size with hlt | hge
  · have := (hk.block gb hlt (by omega)).1
    have h2 : o gb = 1 := h1
    rw [this] at h2
    cases h2
  · exact hge
theorem NewI.rd {w w' : World} {s : Sl} {xs : List Int} (h : NewI w w' s xs) {w0 : World} (own : Nat → Nat) (hb : w0.heap.size ≤ w.heap.size) : Rd i64K w' (tagged w0 own 0) 0 s xs :=
  ⟨h.c, h.cap, fun a ha hn => by
    obtain ⟨b, e, hl⟩ := h.hd hn
    rw [ha] at e
    injection e with e
    subst e
    exact tagged_new (Nat.le_trans hb hl)⟩
theorem NewI.cell {w w' : World} {b n c : Nat} {xs : List Int} (h : NewI w w' ⟨some ⟨b, 0, none⟩, n, c⟩ xs) (k : Nat) (x : Int) (hx : xs[k]? = some x) : w'.cell? ⟨b, k, none⟩ = some (.int .i64 x) := by
  have hk : k < n := by have := (List.getElem?_eq_some_iff.1 hx).1; rw [← h.len] at this; exact this
  obtain ⟨ad, hA, hc⟩ := sc_at h.c k hk x hx
  injection hA with hA
  subst hA
  rw [show (⟨b, 0, none⟩ : Addr).add k = ⟨b, k, none⟩ from by unfold Addr.add; split <;> simp_all] at hc
  exact hc
theorem heads_ok (w : World) (own : Nat → Nat) (t te g : Nat) (a : AR) (H : ArA w own t te g a) (hl : a.ents.length < 2 ^ 40) (hh : a.heads < 2 ^ 40) : Calls Tryz.prog 51 #[pt g, .int .i64 0, .int .i64 (a.heads : Int), .int .i64 1, .func (.func 52) #[] #[]] w (FreeQ w (freeH a)) := by
  obtain ⟨z, ps, hg, hb, hs, he⟩ := H
  have hpl : ps.length < 2 ^ 40 := by rw [← he.1, List.length_map] at hl; exact hl
  have h := free_ok w own t te g z _ _ _ _ ps hb hs hpl 0 a.heads 1 (by decide) hh (by decide) 52 (fun x v => x.en.at_ == v) (enters 52 Tryz.func52 (by kernel_rfl) rfl) (fun x hx v W hW => headTaken_ok x v W)
  refine h.mono ?_
  intro e w' hp
  have := freeP_q hp
  unfold freeH
  rw [← he.1]
  simp only [List.any_map]
  exact this
theorem data_ok (w : World) (own : Nat → Nat) (t te g : Nat) (a : AR) (H : ArA w own t te g a) (hl : a.ents.length < 2 ^ 40) (hh : a.heads < 2 ^ 40) (hs2 : a.sec < 2 ^ 40) (hes : ∀ e ∈ a.ents, e.secs.length < 2 ^ 40) (m : Nat) (hm : m < 2 ^ 40) : Calls Tryz.prog 51 #[pt g, .int .i64 (a.heads : Int), .int .i64 (a.sec : Int), .int .i64 (m : Int), .func (.func 54) #[] #[]] w (FreeQ w (freeD a m)) := by
  obtain ⟨z, ps, hg, hb, hs, he⟩ := H
  have hpl : ps.length < 2 ^ 40 := by rw [← he.1, List.length_map] at hl; exact hl
  have h := free_ok w own t te g z _ _ _ _ ps hb hs hpl a.heads a.sec m hh hs2 hm 54 (fun x v => x.en.secs.contains v) (enters 54 Tryz.func54 (by kernel_rfl) rfl) (fun x hx v W hW => by
    have hr := he.2 x hx
    have hxl : x.sl.n < 2 ^ 40 := by
      rw [← hr.1.1]
      exact hes x.en (by rw [← he.1]; exact List.mem_map.2 ⟨x, hx, rfl⟩)
    exact dataTaken_ok x v W (Kd.C_below hr.1 hW) hxl)
  refine h.mono ?_
  intro e w' hp
  have := freeP_q hp
  unfold freeD
  rw [← he.1]
  simp only [List.any_map]
  exact this
theorem freeS_len (tk : Nat → Bool) (frm til most : Nat) : (freeS tk frm til most).length ≤ most := by
  unfold freeS
  rw [List.length_take]
  omega
theorem freeS_mem {tk : Nat → Bool} {frm til most n : Nat} (h : n ∈ freeS tk frm til most) : frm ≤ n ∧ n < til ∧ tk n = false := by
  have h1 := List.mem_of_mem_take h
  obtain ⟨h2, h3⟩ := List.mem_filter.1 h1
  obtain ⟨h4, h5⟩ := List.mem_range'_1.1 h2
  exact ⟨h4, by omega, by simpa using h3⟩
theorem freeD_len (a : AR) (m : Nat) : (freeD a m).length ≤ m := by unfold freeD; rw [List.length_map]; exact freeS_len _ _ _ _
theorem freeH_len (a : AR) : (freeH a).length ≤ 1 := by unfold freeH; rw [List.length_map]; exact freeS_len _ _ _ _
theorem freeD_mem {a : AR} {m : Nat} {n : Int} (h : n ∈ freeD a m) : (a.heads : Int) ≤ n ∧ n < (a.sec : Int) ∧ ∀ e ∈ a.ents, n ∉ e.secs := by
  obtain ⟨k, hk, rfl⟩ := List.mem_map.1 h
  obtain ⟨h1, h2, h3⟩ := freeS_mem hk
  refine ⟨by omega, by omega, fun e he hm => ?_⟩
  have : (a.ents.any (fun e => e.secs.contains (k : Int))) = true := List.any_eq_true.2 ⟨e, he, List.contains_iff_mem.2 hm⟩
  rw [this] at h3
  cases h3
theorem freeH_mem {a : AR} {n : Int} (h : n ∈ freeH a) : 0 ≤ n ∧ n < (a.heads : Int) ∧ ∀ e ∈ a.ents, e.at_ ≠ n := by
  obtain ⟨k, hk, rfl⟩ := List.mem_map.1 h
  obtain ⟨h1, h2, h3⟩ := freeS_mem hk
  refine ⟨by omega, by omega, fun e he hm => ?_⟩
  have : (a.ents.any (fun e => e.at_ == (k : Int))) = true := List.any_eq_true.2 ⟨e, he, by rw [hm]; exact beq_self_eq_true _⟩
  rw [this] at h3
  cases h3
/-! a store without a limit -/
theorem full_lim {b : BS} (h : b.lim = false) : b.full = false := by unfold BS.full; rw [h]; rfl
theorem layD_lim (a : AR) (data : List Int) : ∀ (l : List Int) (b : BS) (i : Nat), b.lim = false → (layD a data b i l).2 = true ∧ (layD a data b i l).1.lim = false
  | [], b, i, h => ⟨rfl, h⟩
  | n :: l, b, i, h => by
    unfold layD
    rw [if_neg (by rw [full_lim h]; decide)]
    exact layD_lim a data l _ _ h
theorem layH_lim (a : AR) (e : EN) (f : Int) (b : BS) (h : b.lim = false) : layH a e f b = (BS.sync (b.put ((a.frm + e.at_.toNat : Nat) : Int) (headS e.hd f)), true) := by
  unfold layH
  rw [if_neg (by rw [full_lim h]; decide)]
/-- lay, where nothing is refused -/
def layB (a : AR) (e : EN) (data : List Int) (b : BS) : BS :=
  BS.sync ((BS.sync ((layD a data b 0 e.secs).1.put ((a.frm + e.at_.toNat : Nat) : Int) (headS e.hd 0))).put ((a.frm + e.at_.toNat : Nat) : Int) (headS e.hd 1))
theorem layS_lim (a : AR) (e : EN) (data : List Int) (b : BS) (h : b.lim = false) : layS a e data b = (layB a e data b, true) := by
  obtain ⟨h1, h2⟩ := layD_lim a data e.secs b 0 h
  unfold layS layB
  generalize layD a data b 0 e.secs = r at *
  obtain ⟨b1, ok⟩ := r
  dsimp only at h1 h2 ⊢
  subst h1
  dsimp only
  rw [layH_lim a e 0 b1 h2]
  dsimp only
  rw [layH_lim a e 1 _ (by exact h2)]
theorem layB_lim (a : AR) (e : EN) (data : List Int) (b : BS) (h : b.lim = false) : (layB a e data b).lim = false := (layD_lim a data e.secs b 0 h).2
theorem layB_pend (a : AR) (e : EN) (data : List Int) (b : BS) : (layB a e data b).pend = [] := rfl
/-- the entry that Put makes -/
def newE (a : AR) (ten : Int) (name : ByteArray) (ver : Int) (data : List Int) : EN := ⟨⟨ten, name, ver, data.length, sumS data, (freeD a (many data.length)).headD 0⟩, (freeH a).headD 0, freeD a (many data.length)⟩
/-- Put, where there is room and nothing is refused -/
def putS (S : SV) (i : Nat) (old : Option (Nat × EN)) (name : ByteArray) (data : List Int) : SV :=
  let e := newE (S.ar i) ((i : Int) + 1) name (match old with | none => 1 | some (_, x) => x.hd.ver + 1) data
  let S1 := SV.setB S (layB (S.ar i) e data S.b)
  let S2 := match old with | none => S1 | some (k, x) => delS S1 i k x
  SV.setE S2 i ((S2.ar i).ents ++ [e])
/-- the last step of Put: the entry is kept -/
theorem entry_end {w w5 : World} {own o5 : Nat → Nat} {t g gs : Nat} {ga : Nat → Nat} {S : SV} (H : SvMem w own t g gs ga S) (ht : t ≠ 0) (i : Nat) (hi : i < 8) {x : EP} {s : Sl} {z : Sl} {ps : List EP}
    (hg : own (ga i) = t + 4 + i) (hb : Blk w (ga i) #[.int .i64 ((S.ar i).ten : Int), .int .i64 ((S.ar i).frm : Int), .int .i64 ((S.ar i).sec : Int), .int .i64 ((S.ar i).heads : Int), z.enc] 102) (he : Es w own ps (S.ar i).ents) (hx : Rd i64K w own 0 x.sl x.en.secs)
    (ho : Ow enK 107 w5 o5 (t + 12 + i) s (ps ++ [x])) (hk : Kp (fun q => q = t + 12 + i) w own w5 o5) :
    SvMem (w5.setCell ⟨ga i, 4, none⟩ s.enc) o5 t g gs ga (SV.setE S i ((S.ar i).ents ++ [x.en])) ∧ Kp (k20 t) w own (w5.setCell ⟨ga i, 4, none⟩ s.enc) o5 := by
  obtain ⟨b5, g5⟩ := hb.keep hk (by rw [hg]; omega)
  have hg5 : o5 (ga i) = t + 4 + i := g5.trans hg
  have hkA : Kp (fun q => q = t + 4 + i) w5 o5 (w5.setCell ⟨ga i, 4, none⟩ s.enc) o5 := (Kp.refl _ w5 o5).set _ _ (fun k hk hn e => hn (by rw [e]; exact hg5))
  have hkB : Kp (fun q => q = t + 4 + i ∨ q = t + 12 + i) w own (w5.setCell ⟨ga i, 4, none⟩ s.enc) o5 := (hk.mono (fun q h => .inr h)).trans (hkA.mono (fun q h => .inl h))
  refine ⟨SvMem.ents H i hi (ps := ps ++ [x]) (z := s) hkB ht hg5 (Blk.set (i := 4) b5 _) (ho.keep hkA (by omega)) ⟨by rw [List.map_append, he.1]; rfl, fun p hp => ?_⟩, hkB.mono (fun q h => ⟨by rcases h with h | h <;> omega, by rcases h with h | h <;> omega⟩)⟩
  rcases List.mem_append.1 hp with hp | hp
  · exact (he.2 p hp).keep i64K_K (by decide) hkB (by omega)
  · simp at hp
    subst hp
    exact hx.keep i64K_K (by decide) hkB (by omega)
theorem entry_endD {w w5 : World} {own o5 : Nat → Nat} {t g gs : Nat} {ga : Nat → Nat} {S : SV} (H : SvMem w own t g gs ga S) (ht : t ≠ 0) (i : Nat) (hi : i < 8) {x : EP} {s : Sl} {z : Sl} {ps : List EP}
    (hg : own (ga i) = t + 4 + i) (hb : Blk w (ga i) #[.int .i64 ((S.ar i).ten : Int), .int .i64 ((S.ar i).frm : Int), .int .i64 ((S.ar i).sec : Int), .int .i64 ((S.ar i).heads : Int), z.enc] 102) (he : Es w own ps (S.ar i).ents) (hx : Rd i64K w own 0 x.sl x.en.secs)
    (ho : Ow enK 107 w5 o5 (t + 12 + i) s (ps ++ [x])) (hk : Kp (fun q => q = t + 12 + i) w.drew own w5 o5) :
    SvMem (w5.setCell ⟨ga i, 4, none⟩ s.enc) o5 t g gs ga (SV.setE S i ((S.ar i).ents ++ [x.en])) ∧ Kp (k20 t) w own (w5.setCell ⟨ga i, 4, none⟩ s.enc) o5 := by
  have h0 : Kp (fun _ => False) w own w.drew own := (Kp.refl _ w own).drew
  obtain ⟨h1, h2⟩ := entry_end (H.keep h0 (fun q => q) (fun _ _ _ q => q)) ht i hi hg (hb.keep h0 (fun q => q)).1 (he.keep h0 (fun q => q)) (hx.keep i64K_K (by decide) h0 (fun q => q)) ho hk
  exact ⟨h1, (h0.mono (fun _ h => h.elim)).trans h2⟩
end Go.Proofs.YtmofiicjaldmiaaGreatDoor.SwA
namespace Go.Proofs.YtmofiicjaldmiaaGreatDoor.SwB
open Go.RowKit Go.Shelf Go.Proofs.YtmofiicjaldmiaaGreatDoorW.PrintWords Go.Proofs.YtmofiicjaldmiaaGreatDoorW.PrintLast Go.Proofs.YtmofiicjaldmiaaGreatDoor.SvA Go.Proofs.YtmofiicjaldmiaaGreatDoor.SvB Go.Proofs.YtmofiicjaldmiaaGreatDoor.SvC Go.Proofs.YtmofiicjaldmiaaGreatDoor.SvD Go.Proofs.YtmofiicjaldmiaaGreatDoor.SvE Go.Proofs.YtmofiicjaldmiaaGreatDoor.SvF Go.Proofs.YtmofiicjaldmiaaGreatDoor.SvG Go.Proofs.YtmofiicjaldmiaaGreatDoor.SvH Go.Proofs.YtmofiicjaldmiaaGreatDoor.SvI Go.Proofs.YtmofiicjaldmiaaGreatDoor.SvJ Go.Proofs.YtmofiicjaldmiaaGreatDoor.SvK Go.Proofs.YtmofiicjaldmiaaGreatDoor.SvL Go.Proofs.YtmofiicjaldmiaaGreatDoor.SvM Go.Proofs.YtmofiicjaldmiaaGreatDoor.SvN Go.Proofs.YtmofiicjaldmiaaGreatDoor.SvO Go.Proofs.YtmofiicjaldmiaaGreatDoor.SvP Go.Proofs.YtmofiicjaldmiaaGreatDoor.SvQ Go.Proofs.YtmofiicjaldmiaaGreatDoor.SvR Go.Proofs.YtmofiicjaldmiaaGreatDoor.SvS Go.Proofs.YtmofiicjaldmiaaGreatDoor.SvT Go.Proofs.YtmofiicjaldmiaaGreatDoor.SvU Go.Proofs.YtmofiicjaldmiaaGreatDoor.SvV Go.Proofs.YtmofiicjaldmiaaGreatDoor.SvW Go.Proofs.YtmofiicjaldmiaaGreatDoor.SvX Go.Proofs.YtmofiicjaldmiaaGreatDoor.SvY Go.Proofs.YtmofiicjaldmiaaGreatDoor.SvZ Go.Proofs.YtmofiicjaldmiaaGreatDoor.SwA
set_option linter.unusedVariables false
set_option linter.unusedSimpArgs false
set_option maxRecDepth 100000 in
set_option maxHeartbeats 4000000 in
theorem put_full_neg (w : World) (own : Nat → Nat) (t g gs : Nat) (ga : Nat → Nat) (S : SV) (H : SvMem w own t g gs ga S) (ht : t ≠ 0) (i : Nat) (hi : i < 8) (hS : BOk S.b) (hA : AOk S i) (name : ByteArray) (hs : name.size < 2 ^ 62) (hn16 : name.size ≤ 16) (hd : S.dead = false) (hok : nameOk name = true) (A : Option Addr) (n c td : Nat) (data : List Int) (hda : Rd u8K w own td ⟨A, n, c⟩ data) (htd : ¬ k3 t td) (hu : u8s data) (hn : n ≤ 131072) (hf : findI (fun e => e.hd.name == name) (S.ar i).ents < 0) (hroom : freeH (S.ar i) = [] ∨ (freeD (S.ar i) (many n)).length < many n) :
    Calls Tryz.prog 23 #[pt g, .int .i64 ((i : Int) + 1), .string name, .slice A n c] w (fun e w' => e = .returned (.int .i64 112) ∧ Below w.heap.size w w') := by
  have hcn := named_yes w own t g gs ga S H i hi name hs hd hok (by have := hA.el; omega)
  have HH := Lib.hid H
  generalize hr : findI (fun e : EN => e.hd.name == name) (S.ar i).ents = r at *
  have hrk : decide (r ≥ 0) = false := by simp; omega
  clear hr
  have HC := Lib.hid hcn
  have HFH := Lib.hid (fun (W : World) (h : Below w.heap.size w W) => heads_ok W _ _ _ _ _ ((HH.out.below h).ar i hi) (by have := hA.el; omega) (by have := hA.s16; have := hA.hs; omega))
  have HFD := Lib.hid (fun (W : World) (h : Below w.heap.size w W) => data_ok W _ _ _ _ _ ((HH.out.below h).ar i hi) (by have := hA.el; omega) (by have := hA.s16; have := hA.hs; omega) (by have := hA.s16; omega) (fun e he => by have := (hA.eo e he).2.2.2; omega) (many n) (by unfold many; omega))
  have HAR := Lib.hid (fun (W : World) (h : Below w.heap.size w W) => ar_c1 ((HH.out.below h).ar i hi))
  have HDA := Lib.hid hda
  have hdl : data.length = n := hda.1.1
  have hnc : n ≤ c := hda.2.1
  have HHA := Lib.hid hA
  clear hcn H hok hda hA
  go_enter Tryz.func23, Tryz.ntmps23
  go_upto_region 7 with (first | (go_at_call 50; refine HC.out.mono ?_; rintro e w1 ⟨rfl, hb1⟩; have q3 := (HAR.out w1 hb1).2.2.2) | (go_at_call 51; refine Calls.mono (HFH.out w1 hb1) ?_; rintro e w2 ⟨⟨A1, n1, c1⟩, rfl, hN1⟩; unfold Sl.enc; dsimp only))
  have hb2 : Below w.heap.size w w2 := hb1.trans (hN1.below.mono hb1.size)
  have HN1 := Lib.hid hN1
  clear hN1 q3
  have hS0 : w2.cell? ⟨ga i, 2, none⟩ = some (.int .i64 ((S.ar i).sec : Int)) ∧ w2.cell? ⟨ga i, 3, none⟩ = some (.int .i64 ((S.ar i).heads : Int)) := ⟨(HAR.out w2 hb2).2.2.1, (HAR.out w2 hb2).2.2.2⟩
  refine start_ (n := 14) (S := fun w' => w'.cell? ⟨ga i, 2, none⟩ = some (.int .i64 ((S.ar i).sec : Int)) ∧ w'.cell? ⟨ga i, 3, none⟩ = some (.int .i64 ((S.ar i).heads : Int))) (ds := []) #[false, false, false, false, false, false, false, false, false, false, false, false, false, false] (by kernel_rfl) rfl rfl hS0 (fun hHeld => ?_)
  refine pure_ (i := 0) (N := some 38) (v := ?_) (a' := ?_) #[true, false, false, false, false, false, false, false, false, false, false, false, false, false] rfl rfl (by kernel_rfl) (fun _ _ _ h => h) (Or.inl ⟨by rfl, ?_⟩) ?_ ?_
  rotate_left
  · intro w'
    go_simp
    with_reducible rfl
  rotate_left
  · simp only [Act.put, List.setIfInBounds_toArray, List.set_cons_zero, List.set_cons_succ, i64_w, i32_w]
    rfl
  refine pure_ (i := 1) (N := some 39) (v := ?_) (a' := ?_) #[true, true, false, false, false, false, false, false, false, false, false, false, false, false] rfl rfl (by kernel_rfl) (fun _ _ _ h => h) (Or.inl ⟨by rfl, ?_⟩) ?_ ?_
  rotate_left
  · intro w'
    go_simp
    with_reducible rfl
  rotate_left
  · simp only [Act.put, List.setIfInBounds_toArray, List.set_cons_zero, List.set_cons_succ, i64_w, i32_w]
    rfl
  refine pure_ (i := 2) (N := some 40) (v := ?_) (a' := ?_) #[true, true, true, false, false, false, false, false, false, false, false, false, false, false] rfl rfl (by kernel_rfl) (fun _ _ _ h => h) (Or.inl ⟨by rfl, ?_⟩) ?_ ?_
  rotate_left
  · intro w'
    go_simp
    with_reducible rfl
  rotate_left
  · simp only [Act.put, List.setIfInBounds_toArray, List.set_cons_zero, List.set_cons_succ, i64_w, i32_w]
    rfl
  refine pure_ (i := 3) (N := some 41) (v := ?_) (a' := ?_) #[true, true, true, true, false, false, false, false, false, false, false, false, false, false] rfl rfl (by kernel_rfl) (fun _ _ _ h => h) (Or.inl ⟨by rfl, ?_⟩) ?_ ?_
  rotate_left
  · intro w'
    go_simp
    with_reducible rfl
  rotate_left
  · simp only [Act.put, List.setIfInBounds_toArray, List.set_cons_zero, List.set_cons_succ, i64_w, i32_w]
    rfl
  refine take_ (i := 4) (N := some 42) (v := ?_) (a' := ?_) #[true, true, true, true, true, false, false, false, false, false, false, false, false, false] rfl rfl (by kernel_rfl) (fun _ _ _ h => h) (Or.inl ⟨by rfl, ?_⟩) hHeld ?_ ?_
  rotate_left
  · intro w' s0
    obtain ⟨q1, q2⟩ := s0
    go_simp
    with_reducible rfl
  rotate_left
  · simp only [Act.put, List.setIfInBounds_toArray, List.set_cons_zero, List.set_cons_succ, i64_w, i32_w]
    rfl
  refine pure_ (i := 5) (N := some 43) (v := ?_) (a' := ?_) #[true, true, true, true, true, true, false, false, false, false, false, false, false, false] rfl rfl (by kernel_rfl) (fun _ _ _ h => h) (Or.inl ⟨by rfl, ?_⟩) ?_ ?_
  rotate_left
  · intro w'
    go_simp
    with_reducible rfl
  rotate_left
  · simp only [Act.put, List.setIfInBounds_toArray, List.set_cons_zero, List.set_cons_succ, i64_w, i32_w]
    rfl
  refine pure_ (i := 6) (N := some 44) (v := ?_) (a' := ?_) #[true, true, true, true, true, true, true, false, false, false, false, false, false, false] rfl rfl (by kernel_rfl) (fun _ _ _ h => h) (Or.inl ⟨by rfl, ?_⟩) ?_ ?_
  rotate_left
  · intro w'
    go_simp
    with_reducible rfl
  rotate_left
  · simp only [Act.put, List.setIfInBounds_toArray, List.set_cons_zero, List.set_cons_succ, i64_w, i32_w]
    rfl
  refine pure_ (i := 7) (N := some 45) (v := ?_) (a' := ?_) #[true, true, true, true, true, true, true, true, false, false, false, false, false, false] rfl rfl (by kernel_rfl) (fun _ _ _ h => h) (Or.inl ⟨by rfl, ?_⟩) ?_ ?_
  rotate_left
  · intro w'
    go_simp
    with_reducible rfl
  rotate_left
  · simp only [Act.put, List.setIfInBounds_toArray, List.set_cons_zero, List.set_cons_succ, i64_w, i32_w]
    rfl
  refine take_ (i := 8) (N := some 46) (v := ?_) (a' := ?_) #[true, true, true, true, true, true, true, true, true, false, false, false, false, false] rfl rfl (by kernel_rfl) (fun _ _ _ h => h) (Or.inl ⟨by rfl, ?_⟩) hHeld ?_ ?_
  rotate_left
  · intro w' s0
    obtain ⟨q1, q2⟩ := s0
    go_simp
    with_reducible rfl
  rotate_left
  · simp only [Act.put, List.setIfInBounds_toArray, List.set_cons_zero, List.set_cons_succ, i64_w, i32_w]
    rfl
  refine pure_ (i := 9) (N := some 47) (v := ?_) (a' := ?_) #[true, true, true, true, true, true, true, true, true, true, false, false, false, false] rfl rfl (by kernel_rfl) (fun _ _ _ h => h) (Or.inl ⟨by rfl, ?_⟩) ?_ ?_
  rotate_left
  · intro w'
    go_simp
    with_reducible rfl
  rotate_left
  · simp only [Act.put, List.setIfInBounds_toArray, List.set_cons_zero, List.set_cons_succ, i64_w, i32_w]
    rfl
  refine pure_ (i := 10) (N := some 48) (v := ?_) (a' := ?_) #[true, true, true, true, true, true, true, true, true, true, true, false, false, false] rfl rfl (by kernel_rfl) (fun _ _ _ h => h) (Or.inl ⟨by rfl, ?_⟩) ?_ ?_
  rotate_left
  · intro w'
    go_simp
    with_reducible rfl
  rotate_left
  · simp only [Act.put, List.setIfInBounds_toArray, List.set_cons_zero, List.set_cons_succ, i64_w, i32_w]
    rfl
  refine one_ (i := 11) (N := some 49) #[true, true, true, true, true, true, true, true, true, true, true, true, false, false] rfl rfl (by kernel_rfl) (by decide) (fun K hK => ?_)
  refine goes_ Tryz.func53 (by kernel_rfl) rfl #[.int .i64 (n : Int)] (by first | rfl | (simp [Act.eval]; done)) rfl rfl (by first | rfl | (simp [Act.eval]; done)) ?_
  refine Calls.mono (many_ok _ n (by omega)) ?_
  rintro e w' ⟨rfl, rfl⟩
  refine ⟨_, rfl, ?_⟩
  refine hK.out _ _ hHeld (fun hHeld => ?_)
  clear hK K
  refine norm_ (a' := ?_) ?_ ?_
  rotate_left
  · show Act.put _ (some 49) _ = _
    simp only [Act.put, List.setIfInBounds_toArray, List.set_cons_zero, List.set_cons_succ, i64_w, i32_w]
    rfl
  refine one_ (i := 12) (N := some 50) #[true, true, true, true, true, true, true, true, true, true, true, true, true, false] rfl rfl (by kernel_rfl) (by decide) (fun K hK => ?_)
  refine goes_ Tryz.func51 (by kernel_rfl) rfl #[pt (ga i), .int .i64 ((S.ar i).heads : Int), .int .i64 ((S.ar i).sec : Int), .int .i64 (many n : Int), .func (.func 54) #[] #[]] (by first | rfl | (simp [Act.eval]; done)) rfl rfl (by first | rfl | (simp [Act.eval]; done)) ?_
  refine Calls.mono (HFD.out w2.drew hb2.drew) ?_
  rintro e w3 ⟨⟨A2, n2, c2⟩, rfl, hN2⟩
  unfold Sl.enc; dsimp only
  refine ⟨_, rfl, ?_⟩
  refine hK.out _ _ ⟨cellOf hN2.below hHeld.1, cellOf hN2.below hHeld.2⟩ (fun hHeld => ?_)
  clear hK K
  refine norm_ (a' := ?_) ?_ ?_
  rotate_left
  · show Act.put _ (some 50) _ = _
    simp only [Act.put, List.setIfInBounds_toArray, List.set_cons_zero, List.set_cons_succ, i64_w, i32_w]
    rfl
  refine pure_ (i := 13) (N := some 13) (v := ?_) (a' := ?_) #[true, true, true, true, true, true, true, true, true, true, true, true, true, true] rfl rfl (by kernel_rfl) (fun _ _ _ h => h) (Or.inl ⟨by rfl, ?_⟩) ?_ ?_
  rotate_left
  · intro w'
    go_simp
    with_reducible rfl
  rotate_left
  · simp only [Act.put, List.setIfInBounds_toArray, List.set_cons_zero, List.set_cons_succ, i64_w, i32_w]
    rfl
  refine done_ (by kernel_rfl) ?_
  have hb3 : Below w.heap.size w w3 := hb2.drew.trans (hN2.below.mono hb2.size)
  have HN2 := Lib.hid hN2
  clear hHeld hN2 hS0
  go_upto_region 9 with (fail)
  have hl1 : n1 = (freeH (S.ar i)).length := HN1.out.len
  have hl2 : n2 = (freeD (S.ar i) (many n)).length := HN2.out.len
  by_cases h1 : n1 = 0
  · have e1 : ((n1 : Int) == 0) = true := beq_iff_eq.2 (by omega)
    clear hl1 hl2 h1
    go_wp2_with fail
    go_ret
    exact ⟨rfl, hb3⟩
  · have e1 : ((n1 : Int) == 0) = false := beq_eq_false_iff_ne.2 (by omega)
    have e3 : (n2 : Int) < (many n : Int) := by
      rcases hroom with h | h
      · rw [h] at hl1; exact absurd hl1 h1
      · omega
    have e2 : decide ((n2 : Int) < (many n : Int)) = true := decide_eq_true e3
    clear hl1 hl2 h1
    go_wp2_with (go_at_call 53; refine (many_ok _ n (by omega)).mono ?_; rintro e w' ⟨rfl, rfl⟩)
    go_ret
    exact ⟨rfl, hb3⟩
set_option maxRecDepth 100000 in
set_option maxHeartbeats 4000000 in
theorem put_full_pos (w : World) (own : Nat → Nat) (t g gs : Nat) (ga : Nat → Nat) (S : SV) (H : SvMem w own t g gs ga S) (ht : t ≠ 0) (i : Nat) (hi : i < 8) (hS : BOk S.b) (hA : AOk S i) (name : ByteArray) (hs : name.size < 2 ^ 62) (hn16 : name.size ≤ 16) (hd : S.dead = false) (hok : nameOk name = true) (A : Option Addr) (n c td : Nat) (data : List Int) (hda : Rd u8K w own td ⟨A, n, c⟩ data) (htd : ¬ k3 t td) (hu : u8s data) (hn : n ≤ 131072) (k : Nat) (hf : findI (fun e => e.hd.name == name) (S.ar i).ents = k) (e0 : EN) (he : (S.ar i).ents[k]? = some e0) (hv : e0.hd.ver < 4294967295) (hroom : freeH (S.ar i) = [] ∨ (freeD (S.ar i) (many n)).length < many n) :
    Calls Tryz.prog 23 #[pt g, .int .i64 ((i : Int) + 1), .string name, .slice A n c] w (fun e w' => e = .returned (.int .i64 112) ∧ Below w.heap.size w w') := by
  have hcn := named_yes w own t g gs ga S H i hi name hs hd hok (by have := hA.el; omega)
  rw [hf] at hcn
  have HH := Lib.hid H
  obtain ⟨z, ps, hg, hb, hz, hes⟩ := H.ar i hi
  have hpl : ps.length = (S.ar i).ents.length := by rw [← hes.1, List.length_map]
  have hkl : k < ps.length := by rw [hpl]; exact (List.getElem?_eq_some_iff.1 he).1
  obtain ⟨x0, hx⟩ : ∃ x, ps[k]? = some x := ⟨_, List.getElem?_eq_getElem hkl⟩
  have hxe : x0.en = e0 := by
    have h1 : (ps.map (·.en))[k]? = some x0.en := by rw [List.getElem?_map, hx]; rfl
    rw [hes.1, he] at h1
    injection h1 with h1
    exact h1.symm
  subst hxe
  obtain ⟨gb, hgb⟩ := ow_head hz (by rw [← (ow_len hz).1]; omega)
  obtain ⟨zA, zn, zc⟩ := z
  injection hgb with hgb _ _
  subst hgb
  have hkn0 : ps.length = zn := (ow_len hz).1
  have hkn : (k : Int) < (zn : Int) := by omega
  have hk0 : (0 : Int) ≤ (k : Int) := by omega
  have hk40 : k < 2 ^ 30 := by have := hA.el; omega
  have HE := Lib.hid (fun (W : World) (h : Below w.heap.size w W) => stS (hb.below h) (hz.keep (Kp.below (ts := fun _ => False) h 0) (fun q => q)) hx)
  have HEO := Lib.hid (hA.eo x0.en (List.mem_of_getElem? he))
  have HGE := Lib.hid he
  clear hb hz hes hx hg hpl hkl hf he hkn0
  obtain ⟨⟨⟨x1, x2, x3, x4, x5, x6⟩, x7, xs⟩, ⟨x8, x9, x10⟩⟩ := x0
  dsimp only at *
  have hx3 : 0 ≤ x3 := HEO.out.1.v0.1
  have hve : (x3 == 4294967295) = false := beq_eq_false_iff_ne.2 (by omega)
  have hrk : decide ((k : Int) ≥ 0) = true := by simp
  have HC := Lib.hid hcn
  have HFH := Lib.hid (fun (W : World) (h : Below w.heap.size w W) => heads_ok W _ _ _ _ _ ((HH.out.below h).ar i hi) (by have := hA.el; omega) (by have := hA.s16; have := hA.hs; omega))
  have HFD := Lib.hid (fun (W : World) (h : Below w.heap.size w W) => data_ok W _ _ _ _ _ ((HH.out.below h).ar i hi) (by have := hA.el; omega) (by have := hA.s16; have := hA.hs; omega) (by have := hA.s16; omega) (fun e he => by have := (hA.eo e he).2.2.2; omega) (many n) (by unfold many; omega))
  have HAR := Lib.hid (fun (W : World) (h : Below w.heap.size w W) => ar_c1 ((HH.out.below h).ar i hi))
  have HDA := Lib.hid hda
  have hdl : data.length = n := hda.1.1
  have hnc : n ≤ c := hda.2.1
  have HHA := Lib.hid hA
  clear hcn H hok hda hA
  go_enter Tryz.func23, Tryz.ntmps23
  go_upto_region 7 with (first | (go_at_call 50; refine HC.out.mono ?_; rintro e w1 ⟨rfl, hb1⟩; have q3 := (HAR.out w1 hb1).2.2.2) | (go_at_call 51; refine Calls.mono (HFH.out w1 hb1) ?_; rintro e w2 ⟨⟨A1, n1, c1⟩, rfl, hN1⟩; unfold Sl.enc; dsimp only))
  have hb2 : Below w.heap.size w w2 := hb1.trans (hN1.below.mono hb1.size)
  have HN1 := Lib.hid hN1
  clear hN1 q3
  have hS0 : w2.cell? ⟨ga i, 2, none⟩ = some (.int .i64 ((S.ar i).sec : Int)) ∧ w2.cell? ⟨ga i, 3, none⟩ = some (.int .i64 ((S.ar i).heads : Int)) := ⟨(HAR.out w2 hb2).2.2.1, (HAR.out w2 hb2).2.2.2⟩
  refine start_ (n := 14) (S := fun w' => w'.cell? ⟨ga i, 2, none⟩ = some (.int .i64 ((S.ar i).sec : Int)) ∧ w'.cell? ⟨ga i, 3, none⟩ = some (.int .i64 ((S.ar i).heads : Int))) (ds := []) #[false, false, false, false, false, false, false, false, false, false, false, false, false, false] (by kernel_rfl) rfl rfl hS0 (fun hHeld => ?_)
  refine pure_ (i := 0) (N := some 38) (v := ?_) (a' := ?_) #[true, false, false, false, false, false, false, false, false, false, false, false, false, false] rfl rfl (by kernel_rfl) (fun _ _ _ h => h) (Or.inl ⟨by rfl, ?_⟩) ?_ ?_
  rotate_left
  · intro w'
    go_simp
    with_reducible rfl
  rotate_left
  · simp only [Act.put, List.setIfInBounds_toArray, List.set_cons_zero, List.set_cons_succ, i64_w, i32_w]
    rfl
  refine pure_ (i := 1) (N := some 39) (v := ?_) (a' := ?_) #[true, true, false, false, false, false, false, false, false, false, false, false, false, false] rfl rfl (by kernel_rfl) (fun _ _ _ h => h) (Or.inl ⟨by rfl, ?_⟩) ?_ ?_
  rotate_left
  · intro w'
    go_simp
    with_reducible rfl
  rotate_left
  · simp only [Act.put, List.setIfInBounds_toArray, List.set_cons_zero, List.set_cons_succ, i64_w, i32_w]
    rfl
  refine pure_ (i := 2) (N := some 40) (v := ?_) (a' := ?_) #[true, true, true, false, false, false, false, false, false, false, false, false, false, false] rfl rfl (by kernel_rfl) (fun _ _ _ h => h) (Or.inl ⟨by rfl, ?_⟩) ?_ ?_
  rotate_left
  · intro w'
    go_simp
    with_reducible rfl
  rotate_left
  · simp only [Act.put, List.setIfInBounds_toArray, List.set_cons_zero, List.set_cons_succ, i64_w, i32_w]
    rfl
  refine pure_ (i := 3) (N := some 41) (v := ?_) (a' := ?_) #[true, true, true, true, false, false, false, false, false, false, false, false, false, false] rfl rfl (by kernel_rfl) (fun _ _ _ h => h) (Or.inl ⟨by rfl, ?_⟩) ?_ ?_
  rotate_left
  · intro w'
    go_simp
    with_reducible rfl
  rotate_left
  · simp only [Act.put, List.setIfInBounds_toArray, List.set_cons_zero, List.set_cons_succ, i64_w, i32_w]
    rfl
  refine take_ (i := 4) (N := some 42) (v := ?_) (a' := ?_) #[true, true, true, true, true, false, false, false, false, false, false, false, false, false] rfl rfl (by kernel_rfl) (fun _ _ _ h => h) (Or.inl ⟨by rfl, ?_⟩) hHeld ?_ ?_
  rotate_left
  · intro w' s0
    obtain ⟨q1, q2⟩ := s0
    go_simp
    with_reducible rfl
  rotate_left
  · simp only [Act.put, List.setIfInBounds_toArray, List.set_cons_zero, List.set_cons_succ, i64_w, i32_w]
    rfl
  refine pure_ (i := 5) (N := some 43) (v := ?_) (a' := ?_) #[true, true, true, true, true, true, false, false, false, false, false, false, false, false] rfl rfl (by kernel_rfl) (fun _ _ _ h => h) (Or.inl ⟨by rfl, ?_⟩) ?_ ?_
  rotate_left
  · intro w'
    go_simp
    with_reducible rfl
  rotate_left
  · simp only [Act.put, List.setIfInBounds_toArray, List.set_cons_zero, List.set_cons_succ, i64_w, i32_w]
    rfl
  refine pure_ (i := 6) (N := some 44) (v := ?_) (a' := ?_) #[true, true, true, true, true, true, true, false, false, false, false, false, false, false] rfl rfl (by kernel_rfl) (fun _ _ _ h => h) (Or.inl ⟨by rfl, ?_⟩) ?_ ?_
  rotate_left
  · intro w'
    go_simp
    with_reducible rfl
  rotate_left
  · simp only [Act.put, List.setIfInBounds_toArray, List.set_cons_zero, List.set_cons_succ, i64_w, i32_w]
    rfl
  refine pure_ (i := 7) (N := some 45) (v := ?_) (a' := ?_) #[true, true, true, true, true, true, true, true, false, false, false, false, false, false] rfl rfl (by kernel_rfl) (fun _ _ _ h => h) (Or.inl ⟨by rfl, ?_⟩) ?_ ?_
  rotate_left
  · intro w'
    go_simp
    with_reducible rfl
  rotate_left
  · simp only [Act.put, List.setIfInBounds_toArray, List.set_cons_zero, List.set_cons_succ, i64_w, i32_w]
    rfl
  refine take_ (i := 8) (N := some 46) (v := ?_) (a' := ?_) #[true, true, true, true, true, true, true, true, true, false, false, false, false, false] rfl rfl (by kernel_rfl) (fun _ _ _ h => h) (Or.inl ⟨by rfl, ?_⟩) hHeld ?_ ?_
  rotate_left
  · intro w' s0
    obtain ⟨q1, q2⟩ := s0
    go_simp
    with_reducible rfl
  rotate_left
  · simp only [Act.put, List.setIfInBounds_toArray, List.set_cons_zero, List.set_cons_succ, i64_w, i32_w]
    rfl
  refine pure_ (i := 9) (N := some 47) (v := ?_) (a' := ?_) #[true, true, true, true, true, true, true, true, true, true, false, false, false, false] rfl rfl (by kernel_rfl) (fun _ _ _ h => h) (Or.inl ⟨by rfl, ?_⟩) ?_ ?_
  rotate_left
  · intro w'
    go_simp
    with_reducible rfl
  rotate_left
  · simp only [Act.put, List.setIfInBounds_toArray, List.set_cons_zero, List.set_cons_succ, i64_w, i32_w]
    rfl
  refine pure_ (i := 10) (N := some 48) (v := ?_) (a' := ?_) #[true, true, true, true, true, true, true, true, true, true, true, false, false, false] rfl rfl (by kernel_rfl) (fun _ _ _ h => h) (Or.inl ⟨by rfl, ?_⟩) ?_ ?_
  rotate_left
  · intro w'
    go_simp
    with_reducible rfl
  rotate_left
  · simp only [Act.put, List.setIfInBounds_toArray, List.set_cons_zero, List.set_cons_succ, i64_w, i32_w]
    rfl
  refine one_ (i := 11) (N := some 49) #[true, true, true, true, true, true, true, true, true, true, true, true, false, false] rfl rfl (by kernel_rfl) (by decide) (fun K hK => ?_)
  refine goes_ Tryz.func53 (by kernel_rfl) rfl #[.int .i64 (n : Int)] (by first | rfl | (simp [Act.eval]; done)) rfl rfl (by first | rfl | (simp [Act.eval]; done)) ?_
  refine Calls.mono (many_ok _ n (by omega)) ?_
  rintro e w' ⟨rfl, rfl⟩
  refine ⟨_, rfl, ?_⟩
  refine hK.out _ _ hHeld (fun hHeld => ?_)
  clear hK K
  refine norm_ (a' := ?_) ?_ ?_
  rotate_left
  · show Act.put _ (some 49) _ = _
    simp only [Act.put, List.setIfInBounds_toArray, List.set_cons_zero, List.set_cons_succ, i64_w, i32_w]
    rfl
  refine one_ (i := 12) (N := some 50) #[true, true, true, true, true, true, true, true, true, true, true, true, true, false] rfl rfl (by kernel_rfl) (by decide) (fun K hK => ?_)
  refine goes_ Tryz.func51 (by kernel_rfl) rfl #[pt (ga i), .int .i64 ((S.ar i).heads : Int), .int .i64 ((S.ar i).sec : Int), .int .i64 (many n : Int), .func (.func 54) #[] #[]] (by first | rfl | (simp [Act.eval]; done)) rfl rfl (by first | rfl | (simp [Act.eval]; done)) ?_
  refine Calls.mono (HFD.out w2.drew hb2.drew) ?_
  rintro e w3 ⟨⟨A2, n2, c2⟩, rfl, hN2⟩
  unfold Sl.enc; dsimp only
  refine ⟨_, rfl, ?_⟩
  refine hK.out _ _ ⟨cellOf hN2.below hHeld.1, cellOf hN2.below hHeld.2⟩ (fun hHeld => ?_)
  clear hK K
  refine norm_ (a' := ?_) ?_ ?_
  rotate_left
  · show Act.put _ (some 50) _ = _
    simp only [Act.put, List.setIfInBounds_toArray, List.set_cons_zero, List.set_cons_succ, i64_w, i32_w]
    rfl
  refine pure_ (i := 13) (N := some 13) (v := ?_) (a' := ?_) #[true, true, true, true, true, true, true, true, true, true, true, true, true, true] rfl rfl (by kernel_rfl) (fun _ _ _ h => h) (Or.inl ⟨by rfl, ?_⟩) ?_ ?_
  rotate_left
  · intro w'
    go_simp
    with_reducible rfl
  rotate_left
  · simp only [Act.put, List.setIfInBounds_toArray, List.set_cons_zero, List.set_cons_succ, i64_w, i32_w]
    rfl
  refine done_ (by kernel_rfl) ?_
  have hb3 : Below w.heap.size w w3 := hb2.drew.trans (hN2.below.mono hb2.size)
  have HN2 := Lib.hid hN2
  clear hHeld hN2 hS0
  obtain ⟨q0, q1, q2, q3, q4, q5, q6, q7⟩ := HE.out w3 hb3; dsimp only at q0 q1 q2 q3 q4 q5 q6 q7
  go_upto_region 9 with (fail)
  have hl1 : n1 = (freeH (S.ar i)).length := HN1.out.len
  have hl2 : n2 = (freeD (S.ar i) (many n)).length := HN2.out.len
  by_cases h1 : n1 = 0
  · have e1 : ((n1 : Int) == 0) = true := beq_iff_eq.2 (by omega)
    clear hl1 hl2 h1
    go_wp2_with fail
    go_ret
    exact ⟨rfl, hb3⟩
  · have e1 : ((n1 : Int) == 0) = false := beq_eq_false_iff_ne.2 (by omega)
    have e3 : (n2 : Int) < (many n : Int) := by
      rcases hroom with h | h
      · rw [h] at hl1; exact absurd hl1 h1
      · omega
    have e2 : decide ((n2 : Int) < (many n : Int)) = true := decide_eq_true e3
    clear hl1 hl2 h1
    go_wp2_with (go_at_call 53; refine (many_ok _ n (by omega)).mono ?_; rintro e w' ⟨rfl, rfl⟩)
    go_ret
    exact ⟨rfl, hb3⟩
end Go.Proofs.YtmofiicjaldmiaaGreatDoor.SwB
namespace Go.Proofs.YtmofiicjaldmiaaGreatDoor.SwC
open Go.RowKit Go.Shelf Go.Proofs.YtmofiicjaldmiaaGreatDoorW.PrintWords Go.Proofs.YtmofiicjaldmiaaGreatDoorW.PrintLast Go.Proofs.YtmofiicjaldmiaaGreatDoor.SvA Go.Proofs.YtmofiicjaldmiaaGreatDoor.SvB Go.Proofs.YtmofiicjaldmiaaGreatDoor.SvC Go.Proofs.YtmofiicjaldmiaaGreatDoor.SvD Go.Proofs.YtmofiicjaldmiaaGreatDoor.SvE Go.Proofs.YtmofiicjaldmiaaGreatDoor.SvF Go.Proofs.YtmofiicjaldmiaaGreatDoor.SvG Go.Proofs.YtmofiicjaldmiaaGreatDoor.SvH Go.Proofs.YtmofiicjaldmiaaGreatDoor.SvI Go.Proofs.YtmofiicjaldmiaaGreatDoor.SvJ Go.Proofs.YtmofiicjaldmiaaGreatDoor.SvK Go.Proofs.YtmofiicjaldmiaaGreatDoor.SvL Go.Proofs.YtmofiicjaldmiaaGreatDoor.SvM Go.Proofs.YtmofiicjaldmiaaGreatDoor.SvN Go.Proofs.YtmofiicjaldmiaaGreatDoor.SvO Go.Proofs.YtmofiicjaldmiaaGreatDoor.SvP Go.Proofs.YtmofiicjaldmiaaGreatDoor.SvQ Go.Proofs.YtmofiicjaldmiaaGreatDoor.SvR Go.Proofs.YtmofiicjaldmiaaGreatDoor.SvS Go.Proofs.YtmofiicjaldmiaaGreatDoor.SvT Go.Proofs.YtmofiicjaldmiaaGreatDoor.SvU Go.Proofs.YtmofiicjaldmiaaGreatDoor.SvV Go.Proofs.YtmofiicjaldmiaaGreatDoor.SvW Go.Proofs.YtmofiicjaldmiaaGreatDoor.SvX Go.Proofs.YtmofiicjaldmiaaGreatDoor.SvY Go.Proofs.YtmofiicjaldmiaaGreatDoor.SvZ Go.Proofs.YtmofiicjaldmiaaGreatDoor.SwA
set_option linter.unusedVariables false
set_option linter.unusedSimpArgs false
set_option maxRecDepth 100000 in
set_option maxHeartbeats 4000000 in
theorem put_neg_0 (w : World) (own : Nat → Nat) (t g gs : Nat) (ga : Nat → Nat) (S : SV) (H : SvMem w own t g gs ga S) (ht : t ≠ 0) (i : Nat) (hi : i < 8) (hS : BOk S.b) (hA : AOk S i) (name : ByteArray) (hs : name.size < 2 ^ 62) (hn16 : name.size ≤ 16) (hd : S.dead = false) (hok : nameOk name = true) (A : Option Addr) (c td : Nat) (data : List Int) (hda : Rd u8K w own td ⟨A, 0, c⟩ data) (htd : ¬ k3 t td) (hu : u8s data) (hn : 0 ≤ 131072) (hf : findI (fun e => e.hd.name == name) (S.ar i).ents < 0) (hroom : freeH (S.ar i) ≠ [] ∧ (freeD (S.ar i) (many 0)).length = many 0) (hlim : S.b.lim = false) (hpe : S.b.pend = []) :
    Calls Tryz.prog 23 #[pt g, .int .i64 ((i : Int) + 1), .string name, .slice A 0 c] w (ActP w own t g gs ga S.b.n (putS S i none name data)) := by
  have hcn := named_yes w own t g gs ga S H i hi name hs hd hok (by have := hA.el; omega)
  have HH := Lib.hid H
  generalize hr : findI (fun e : EN => e.hd.name == name) (S.ar i).ents = r at *
  have hrk : decide (r ≥ 0) = false := by simp; omega
  clear hr
  have HC := Lib.hid hcn
  have HFH := Lib.hid (fun (W : World) (h : Below w.heap.size w W) => heads_ok W _ _ _ _ _ ((HH.out.below h).ar i hi) (by have := hA.el; omega) (by have := hA.s16; have := hA.hs; omega))
  have HFD := Lib.hid (fun (W : World) (h : Below w.heap.size w W) => data_ok W _ _ _ _ _ ((HH.out.below h).ar i hi) (by have := hA.el; omega) (by have := hA.s16; have := hA.hs; omega) (by have := hA.s16; omega) (fun e he => by have := (hA.eo e he).2.2.2; omega) (many 0) (by unfold many; omega))
  have HAR := Lib.hid (fun (W : World) (h : Below w.heap.size w W) => ar_c1 ((HH.out.below h).ar i hi))
  have HDA := Lib.hid hda
  have HDL0 := Lib.hid (show data.length = 0 from hda.1.1)
  have hnc : 0 ≤ c := hda.2.1
  have HHA := Lib.hid hA
  clear hcn H hok hda hA
  go_enter Tryz.func23, Tryz.ntmps23
  go_upto_region 7 with (first | (go_at_call 50; refine HC.out.mono ?_; rintro e w1 ⟨rfl, hb1⟩; have q3 := (HAR.out w1 hb1).2.2.2) | (go_at_call 51; refine Calls.mono (HFH.out w1 hb1) ?_; rintro e w2 ⟨⟨A1, n1, c1⟩, rfl, hN1⟩; unfold Sl.enc; dsimp only))
  have hb2 : Below w.heap.size w w2 := hb1.trans (hN1.below.mono hb1.size)
  have HN1 := Lib.hid hN1
  clear hN1 q3
  have hS0 : w2.cell? ⟨ga i, 2, none⟩ = some (.int .i64 ((S.ar i).sec : Int)) ∧ w2.cell? ⟨ga i, 3, none⟩ = some (.int .i64 ((S.ar i).heads : Int)) := ⟨(HAR.out w2 hb2).2.2.1, (HAR.out w2 hb2).2.2.2⟩
  refine start_ (n := 14) (S := fun w' => w'.cell? ⟨ga i, 2, none⟩ = some (.int .i64 ((S.ar i).sec : Int)) ∧ w'.cell? ⟨ga i, 3, none⟩ = some (.int .i64 ((S.ar i).heads : Int))) (ds := []) #[false, false, false, false, false, false, false, false, false, false, false, false, false, false] (by kernel_rfl) rfl rfl hS0 (fun hHeld => ?_)
  refine pure_ (i := 0) (N := some 38) (v := ?_) (a' := ?_) #[true, false, false, false, false, false, false, false, false, false, false, false, false, false] rfl rfl (by kernel_rfl) (fun _ _ _ h => h) (Or.inl ⟨by rfl, ?_⟩) ?_ ?_
  rotate_left
  · intro w'
    go_simp
    with_reducible rfl
  rotate_left
  · simp only [Act.put, List.setIfInBounds_toArray, List.set_cons_zero, List.set_cons_succ, i64_w, i32_w]
    rfl
  refine pure_ (i := 1) (N := some 39) (v := ?_) (a' := ?_) #[true, true, false, false, false, false, false, false, false, false, false, false, false, false] rfl rfl (by kernel_rfl) (fun _ _ _ h => h) (Or.inl ⟨by rfl, ?_⟩) ?_ ?_
  rotate_left
  · intro w'
    go_simp
    with_reducible rfl
  rotate_left
  · simp only [Act.put, List.setIfInBounds_toArray, List.set_cons_zero, List.set_cons_succ, i64_w, i32_w]
    rfl
  refine pure_ (i := 2) (N := some 40) (v := ?_) (a' := ?_) #[true, true, true, false, false, false, false, false, false, false, false, false, false, false] rfl rfl (by kernel_rfl) (fun _ _ _ h => h) (Or.inl ⟨by rfl, ?_⟩) ?_ ?_
  rotate_left
  · intro w'
    go_simp
    with_reducible rfl
  rotate_left
  · simp only [Act.put, List.setIfInBounds_toArray, List.set_cons_zero, List.set_cons_succ, i64_w, i32_w]
    rfl
  refine pure_ (i := 3) (N := some 41) (v := ?_) (a' := ?_) #[true, true, true, true, false, false, false, false, false, false, false, false, false, false] rfl rfl (by kernel_rfl) (fun _ _ _ h => h) (Or.inl ⟨by rfl, ?_⟩) ?_ ?_
  rotate_left
  · intro w'
    go_simp
    with_reducible rfl
  rotate_left
  · simp only [Act.put, List.setIfInBounds_toArray, List.set_cons_zero, List.set_cons_succ, i64_w, i32_w]
    rfl
  refine take_ (i := 4) (N := some 42) (v := ?_) (a' := ?_) #[true, true, true, true, true, false, false, false, false, false, false, false, false, false] rfl rfl (by kernel_rfl) (fun _ _ _ h => h) (Or.inl ⟨by rfl, ?_⟩) hHeld ?_ ?_
  rotate_left
  · intro w' s0
    obtain ⟨q1, q2⟩ := s0
    go_simp
    with_reducible rfl
  rotate_left
  · simp only [Act.put, List.setIfInBounds_toArray, List.set_cons_zero, List.set_cons_succ, i64_w, i32_w]
    rfl
  refine pure_ (i := 5) (N := some 43) (v := ?_) (a' := ?_) #[true, true, true, true, true, true, false, false, false, false, false, false, false, false] rfl rfl (by kernel_rfl) (fun _ _ _ h => h) (Or.inl ⟨by rfl, ?_⟩) ?_ ?_
  rotate_left
  · intro w'
    go_simp
    with_reducible rfl
  rotate_left
  · simp only [Act.put, List.setIfInBounds_toArray, List.set_cons_zero, List.set_cons_succ, i64_w, i32_w]
    rfl
  refine pure_ (i := 6) (N := some 44) (v := ?_) (a' := ?_) #[true, true, true, true, true, true, true, false, false, false, false, false, false, false] rfl rfl (by kernel_rfl) (fun _ _ _ h => h) (Or.inl ⟨by rfl, ?_⟩) ?_ ?_
  rotate_left
  · intro w'
    go_simp
    with_reducible rfl
  rotate_left
  · simp only [Act.put, List.setIfInBounds_toArray, List.set_cons_zero, List.set_cons_succ, i64_w, i32_w]
    rfl
  refine pure_ (i := 7) (N := some 45) (v := ?_) (a' := ?_) #[true, true, true, true, true, true, true, true, false, false, false, false, false, false] rfl rfl (by kernel_rfl) (fun _ _ _ h => h) (Or.inl ⟨by rfl, ?_⟩) ?_ ?_
  rotate_left
  · intro w'
    go_simp
    with_reducible rfl
  rotate_left
  · simp only [Act.put, List.setIfInBounds_toArray, List.set_cons_zero, List.set_cons_succ, i64_w, i32_w]
    rfl
  refine take_ (i := 8) (N := some 46) (v := ?_) (a' := ?_) #[true, true, true, true, true, true, true, true, true, false, false, false, false, false] rfl rfl (by kernel_rfl) (fun _ _ _ h => h) (Or.inl ⟨by rfl, ?_⟩) hHeld ?_ ?_
  rotate_left
  · intro w' s0
    obtain ⟨q1, q2⟩ := s0
    go_simp
    with_reducible rfl
  rotate_left
  · simp only [Act.put, List.setIfInBounds_toArray, List.set_cons_zero, List.set_cons_succ, i64_w, i32_w]
    rfl
  refine pure_ (i := 9) (N := some 47) (v := ?_) (a' := ?_) #[true, true, true, true, true, true, true, true, true, true, false, false, false, false] rfl rfl (by kernel_rfl) (fun _ _ _ h => h) (Or.inl ⟨by rfl, ?_⟩) ?_ ?_
  rotate_left
  · intro w'
    go_simp
    with_reducible rfl
  rotate_left
  · simp only [Act.put, List.setIfInBounds_toArray, List.set_cons_zero, List.set_cons_succ, i64_w, i32_w]
    rfl
  refine pure_ (i := 10) (N := some 48) (v := ?_) (a' := ?_) #[true, true, true, true, true, true, true, true, true, true, true, false, false, false] rfl rfl (by kernel_rfl) (fun _ _ _ h => h) (Or.inl ⟨by rfl, ?_⟩) ?_ ?_
  rotate_left
  · intro w'
    go_simp
    with_reducible rfl
  rotate_left
  · simp only [Act.put, List.setIfInBounds_toArray, List.set_cons_zero, List.set_cons_succ, i64_w, i32_w]
    rfl
  refine one_ (i := 11) (N := some 49) #[true, true, true, true, true, true, true, true, true, true, true, true, false, false] rfl rfl (by kernel_rfl) (by decide) (fun K hK => ?_)
  refine goes_ Tryz.func53 (by kernel_rfl) rfl #[.int .i64 (0 : Int)] (by first | rfl | (simp [Act.eval]; done)) rfl rfl (by first | rfl | (simp [Act.eval]; done)) ?_
  refine Calls.mono (many_ok _ 0 (by omega)) ?_
  rintro e w' ⟨rfl, rfl⟩
  refine ⟨_, rfl, ?_⟩
  refine hK.out _ _ hHeld (fun hHeld => ?_)
  clear hK K
  refine norm_ (a' := ?_) ?_ ?_
  rotate_left
  · show Act.put _ (some 49) _ = _
    simp only [Act.put, List.setIfInBounds_toArray, List.set_cons_zero, List.set_cons_succ, i64_w, i32_w]
    rfl
  refine one_ (i := 12) (N := some 50) #[true, true, true, true, true, true, true, true, true, true, true, true, true, false] rfl rfl (by kernel_rfl) (by decide) (fun K hK => ?_)
  refine goes_ Tryz.func51 (by kernel_rfl) rfl #[pt (ga i), .int .i64 ((S.ar i).heads : Int), .int .i64 ((S.ar i).sec : Int), .int .i64 (many 0 : Int), .func (.func 54) #[] #[]] (by first | rfl | (simp [Act.eval]; done)) rfl rfl (by first | rfl | (simp [Act.eval]; done)) ?_
  refine Calls.mono (HFD.out w2.drew hb2.drew) ?_
  rintro e w3 ⟨⟨A2, n2, c2⟩, rfl, hN2⟩
  unfold Sl.enc; dsimp only
  refine ⟨_, rfl, ?_⟩
  refine hK.out _ _ ⟨cellOf hN2.below hHeld.1, cellOf hN2.below hHeld.2⟩ (fun hHeld => ?_)
  clear hK K
  refine norm_ (a' := ?_) ?_ ?_
  rotate_left
  · show Act.put _ (some 50) _ = _
    simp only [Act.put, List.setIfInBounds_toArray, List.set_cons_zero, List.set_cons_succ, i64_w, i32_w]
    rfl
  refine pure_ (i := 13) (N := some 13) (v := ?_) (a' := ?_) #[true, true, true, true, true, true, true, true, true, true, true, true, true, true] rfl rfl (by kernel_rfl) (fun _ _ _ h => h) (Or.inl ⟨by rfl, ?_⟩) ?_ ?_
  rotate_left
  · intro w'
    go_simp
    with_reducible rfl
  rotate_left
  · simp only [Act.put, List.setIfInBounds_toArray, List.set_cons_zero, List.set_cons_succ, i64_w, i32_w]
    rfl
  refine done_ (by kernel_rfl) ?_
  have hb3 : Below w.heap.size w w3 := hb2.drew.trans (hN2.below.mono hb2.size)
  have HN2 := Lib.hid hN2
  clear hHeld hN2 hS0
  go_upto_region 9 with (fail)
  obtain ⟨hh, hfh⟩ : ∃ hh, freeH (S.ar i) = [hh] := by
    have := freeH_len (S.ar i)
    rcases hfl : freeH (S.ar i) with _ | ⟨x, _ | ⟨y, l⟩⟩
    · exact absurd hfl hroom.1
    · exact ⟨x, rfl⟩
    · rw [hfl] at this; simp at this
  rw [hfh] at HN1
  obtain rfl : n1 = 1 := HN1.out.len
  obtain ⟨b1, hA1, hb1l⟩ := HN1.out.hd Nat.one_pos
  dsimp only at hA1
  subst hA1
  have hhm : 0 ≤ hh ∧ hh < ((S.ar i).heads : Int) := by have := freeH_mem (show hh ∈ freeH (S.ar i) by rw [hfh]; exact List.mem_singleton.2 rfl); exact ⟨this.1, this.2.1⟩
  generalize hds : freeD (S.ar i) (many 0) = ds at *
  have hdm : ∀ x ∈ ds, ((S.ar i).heads : Int) ≤ x ∧ x < ((S.ar i).sec : Int) := fun x hx => by rw [← hds] at hx; have := freeD_mem hx; exact ⟨this.1, this.2.1⟩
  have hdsl : ds.length = many 0 := hroom.2
  have hn2 : n2 = many 0 := HN2.out.len.trans hdsl
  have hm0 : many 0 = 0 := rfl
  rw [hm0] at hn2
  subst hn2
  have HDS0 := Lib.hid (show ds = [] from List.length_eq_zero_iff.1 (hdsl.trans hm0))
  have ed : decide ((0 : Int) < ((many 0 : Nat) : Int)) = false := by rw [hm0]; decide
  have HDM := Lib.hid hdm
  have HHM := Lib.hid hhm
  have HDS := Lib.hid hds
  have HFH' := Lib.hid hfh
  have HDSL := Lib.hid hdsl
  have HRM := Lib.hid hroom
  have HDL := HDL0
  clear hdm hhm hds hfh hdsl hroom
  have HSUM := Lib.hid (sum_ok w3 A 0 c data (BytesAt.below (B := 0) (A := A) (n := 0) HDA.out.1 hb3) hu (by omega) hnc)
  go_upto_region 12 with (first | (go_at_call 53; refine (many_ok _ 0 (by omega)).mono ?_; rintro e w' ⟨rfl, rfl⟩) | (go_at_call 55; refine HSUM.out.mono ?_; rintro e w' ⟨rfl, rfl⟩))
  have HB0 := Lib.hid (hb3.alloc hb3.size (Obj.cells #[.int .i64 ((i : Int) + 1), .string name, .int .u32 1, .int .i64 (0 : Int), .int .u32 (sumS data), .int .i64 0] 105))
  have hB4 : Blk (w3.alloc (Obj.cells #[.int .i64 ((i : Int) + 1), .string name, .int .u32 1, .int .i64 (0 : Int), .int .u32 (sumS data), .int .i64 0] 105)) w3.heap.size #[.int .i64 ((i : Int) + 1), .string name, .int .u32 1, .int .i64 (0 : Int), .int .u32 (sumS data), .int .i64 0] 105 := blkNew rfl
  have hbA := ba (w := w3) (Obj.cells #[.int .i64 ((i : Int) + 1), .string name, .int .u32 1, .int .i64 (0 : Int), .int .u32 (sumS data), .int .i64 0] 105)
  have hz4 : (w3.alloc (Obj.cells #[.int .i64 ((i : Int) + 1), .string name, .int .u32 1, .int .i64 (0 : Int), .int .u32 (sumS data), .int .i64 0] 105)).heap.size = w3.heap.size + 1 := by simp
  generalize w3.alloc (Obj.cells #[.int .i64 ((i : Int) + 1), .string name, .int .u32 1, .int .i64 (0 : Int), .int .u32 (sumS data), .int .i64 0] 105) = W4 at *
  have hpw : w.heap.size ≤ w3.heap.size := hb3.size
  have hB5 := hB4
  have hb5 := hbA
  have hz5 := hz4
  clear hB4 hbA hz4
  go_upto_region 16 with (fail)
  have hB6 := hB5
  have hb6 := hb5
  have hz6 := hz5
  clear hB5 hb5 hz5
  have ch : W4.cell? ⟨b1, 0, none⟩ = some (.int .i64 hh) := cellOf hb6 (cellOf HN2.out.below (HN1.out.cell 0 hh rfl))
  try simp at hB6
  have hS1 : W4.cell? ⟨w3.heap.size, 0, none⟩ = some (.int .i64 ((i : Int) + 1)) ∧ W4.cell? ⟨w3.heap.size, 1, none⟩ = some (.string name) ∧ W4.cell? ⟨w3.heap.size, 2, none⟩ = some (.int .u32 1) ∧ W4.cell? ⟨w3.heap.size, 3, none⟩ = some (.int .i64 (0 : Int)) ∧ W4.cell? ⟨w3.heap.size, 4, none⟩ = some (.int .u32 (sumS data)) ∧ W4.cell? ⟨w3.heap.size, 5, none⟩ = some (.int .i64 0) ∧ W4.cell? ⟨b1, 0, none⟩ = some (.int .i64 hh) :=
    ⟨Blk.cell (i := 0) hB6 rfl, Blk.cell (i := 1) hB6 rfl, Blk.cell (i := 2) hB6 rfl, Blk.cell (i := 3) hB6 rfl, Blk.cell (i := 4) hB6 rfl, Blk.cell (i := 5) hB6 rfl, ch⟩
  clear ch
  refine start_ (n := 8) (S := fun w' => w'.cell? ⟨w3.heap.size, 0, none⟩ = some (.int .i64 ((i : Int) + 1)) ∧ w'.cell? ⟨w3.heap.size, 1, none⟩ = some (.string name) ∧ w'.cell? ⟨w3.heap.size, 2, none⟩ = some (.int .u32 1) ∧ w'.cell? ⟨w3.heap.size, 3, none⟩ = some (.int .i64 (0 : Int)) ∧ w'.cell? ⟨w3.heap.size, 4, none⟩ = some (.int .u32 (sumS data)) ∧ w'.cell? ⟨w3.heap.size, 5, none⟩ = some (.int .i64 0) ∧ w'.cell? ⟨b1, 0, none⟩ = some (.int .i64 hh)) (ds := []) #[false, false, false, false, false, false, false, false] (by kernel_rfl) rfl rfl hS1 (fun hHeld => ?_)
  refine take_ (i := 0) (N := some 106) (v := ?_) (a' := ?_) #[true, false, false, false, false, false, false, false] rfl rfl (by kernel_rfl) (fun _ _ _ h => h) (Or.inl ⟨by rfl, ?_⟩) hHeld ?_ ?_
  rotate_left
  · intro w' s0
    obtain ⟨q1, q2, q3, q4, q5, q6, q7⟩ := s0
    go_simp
    with_reducible rfl
  rotate_left
  · simp only [Act.put, List.setIfInBounds_toArray, List.set_cons_zero, List.set_cons_succ, i64_w, i32_w]
    rfl
  refine pure_ (i := 1) (N := some 107) (v := ?_) (a' := ?_) #[true, true, false, false, false, false, false, false] rfl rfl (by kernel_rfl) (fun _ _ _ h => h) (Or.inl ⟨by rfl, ?_⟩) ?_ ?_
  rotate_left
  · intro w'
    go_simp
    with_reducible rfl
  rotate_left
  · simp only [Act.put, List.setIfInBounds_toArray, List.set_cons_zero, List.set_cons_succ, i64_w, i32_w]
    rfl
  refine pure_ (i := 2) (N := some 108) (v := ?_) (a' := ?_) #[true, true, true, false, false, false, false, false] rfl rfl (by kernel_rfl) (fun _ _ _ h => h) (Or.inl ⟨by rfl, ?_⟩) ?_ ?_
  rotate_left
  · intro w'
    go_simp
    with_reducible rfl
  rotate_left
  · simp only [Act.put, List.setIfInBounds_toArray, List.set_cons_zero, List.set_cons_succ, i64_w, i32_w]
    rfl
  refine take_ (i := 3) (N := some 109) (v := ?_) (a' := ?_) #[true, true, true, true, false, false, false, false] rfl rfl (by kernel_rfl) (fun _ _ _ h => h) (Or.inl ⟨by rfl, ?_⟩) hHeld ?_ ?_
  rotate_left
  · intro w' s0
    obtain ⟨q1, q2, q3, q4, q5, q6, q7⟩ := s0
    go_simp
    with_reducible rfl
  rotate_left
  · simp only [Act.put, List.setIfInBounds_toArray, List.set_cons_zero, List.set_cons_succ, i64_w, i32_w]
    rfl
  refine pure_ (i := 4) (N := some 110) (v := ?_) (a' := ?_) #[true, true, true, true, true, false, false, false] rfl rfl (by kernel_rfl) (fun _ _ _ h => h) (Or.inl ⟨by rfl, ?_⟩) ?_ ?_
  rotate_left
  · intro w'
    go_simp
    with_reducible rfl
  rotate_left
  · simp only [Act.put, List.setIfInBounds_toArray, List.set_cons_zero, List.set_cons_succ, i64_w, i32_w]
    rfl
  refine pure_ (i := 5) (N := some 111) (v := ?_) (a' := ?_) #[true, true, true, true, true, true, false, false] rfl rfl (by kernel_rfl) (fun _ _ _ h => h) (Or.inl ⟨by rfl, ?_⟩) ?_ ?_
  rotate_left
  · intro w'
    go_simp
    with_reducible rfl
  rotate_left
  · simp only [Act.put, List.setIfInBounds_toArray, List.set_cons_zero, List.set_cons_succ, i64_w, i32_w]
    rfl
  refine one_ (i := 6) (N := some 16) #[true, true, true, true, true, true, true, false] rfl rfl (by kernel_rfl) (by decide) (fun K hK => ?_)
  refine value_ (v := pt W4.drew.heap.size) (w1 := W4.drew.alloc (.cells #[.int .i64 0, .string ⟨#[]⟩, .int .u32 0, .int .i64 0, .int .u32 0, .int .i64 0, .int .i64 0, .slice none 0 0] 107)) (by rfl) rfl (by go_simp) ?_
  refine hK.out _ _ ⟨cellOf (ba _) hHeld.1, cellOf (ba _) hHeld.2.1, cellOf (ba _) hHeld.2.2.1, cellOf (ba _) hHeld.2.2.2.1, cellOf (ba _) hHeld.2.2.2.2.1, cellOf (ba _) hHeld.2.2.2.2.2.1, cellOf (ba _) hHeld.2.2.2.2.2.2⟩ (fun hHeld => ?_)
  clear hK K
  refine norm_ (a' := ?_) ?_ ?_
  rotate_left
  · show Act.put _ (some 16) _ = _
    simp only [Act.put, List.setIfInBounds_toArray, List.set_cons_zero, List.set_cons_succ, i64_w, i32_w]
    rfl
  refine one_ (i := 7) (N := none) #[true, true, true, true, true, true, true, true] rfl rfl (by kernel_rfl) (by decide) (fun K hK => ?_)
  refine skip_ (w1 := W4.drew.alloc (.cells #[.int .i64 ((i : Int) + 1), .string name, .int .u32 1, .int .i64 (0 : Int), .int .u32 (sumS data), .int .i64 0, .int .i64 hh, .slice A2 0 c2] 107)) (by rfl) rfl (by go_simp) ?_
  refine hK.out _ _ ⟨cellOf (ba (w := W4.drew) _) hS1.1, cellOf (ba (w := W4.drew) _) hS1.2.1, cellOf (ba (w := W4.drew) _) hS1.2.2.1, cellOf (ba (w := W4.drew) _) hS1.2.2.2.1, cellOf (ba (w := W4.drew) _) hS1.2.2.2.2.1, cellOf (ba (w := W4.drew) _) hS1.2.2.2.2.2.1, cellOf (ba (w := W4.drew) _) hS1.2.2.2.2.2.2⟩ (fun hHeld => ?_)
  clear hK K
  refine done_ (by kernel_rfl) ?_
  have hb37 : Below w3.heap.size w3 (W4.drew.alloc (.cells #[.int .i64 ((i : Int) + 1), .string name, .int .u32 1, .int .i64 (0 : Int), .int .u32 (sumS data), .int .i64 0, .int .i64 hh, .slice A2 0 c2] 107)) := hb6.drew.alloc (by rw [World.size_drew]; omega) _
  have hK37 := (Kp.below (ts := fun _ => False) (own := own) hb3 0).trans (Kp.below (ts := fun _ => False) (own := tagged w own 0) hb37 0)
  have hB7 : Blk (W4.drew.alloc (.cells #[.int .i64 ((i : Int) + 1), .string name, .int .u32 1, .int .i64 (0 : Int), .int .u32 (sumS data), .int .i64 0, .int .i64 hh, .slice A2 0 c2] 107)) W4.drew.heap.size #[.int .i64 ((i : Int) + 1), .string name, .int .u32 1, .int .i64 (0 : Int), .int .u32 (sumS data), .int .i64 0, .int .i64 hh, .slice A2 0 c2] 107 := blkNew rfl
  have hR7 := (HN2.out.rd own (w0 := w) hb2.size).keep i64K_K (by decide) (Kp.below (ts := fun _ => False) (own := tagged w own 0) hb37 0) (fun q => q)
  have hO7 : tagged w3 (tagged w own 0) 0 W4.drew.heap.size = 0 := tagged_new (by rw [World.size_drew]; omega)
  have hD7 := HDA.out.keep u8K_K (by decide) hK37 (fun q => q)
  have hM7 := HH.out.keep hK37 (fun q => q) (fun _ _ _ q => q)
  clear hb37 hHeld hS1 hB6
  generalize (W4.drew.alloc (.cells #[.int .i64 ((i : Int) + 1), .string name, .int .u32 1, .int .i64 (0 : Int), .int .u32 (sumS data), .int .i64 0, .int .i64 hh, .slice A2 0 c2] 107)) = W7 at *
  generalize tagged w3 (tagged w own 0) 0 = o7 at *
  generalize W4.drew.heap.size = q7 at *
  have HNE : newE (S.ar i) ((i : Int) + 1) name 1 data = ⟨⟨(i : Int) + 1, name, 1, (0 : Int), sumS data, 0⟩, hh, ds⟩ := by
    unfold newE
    rw [HDL.out, HFH'.out, HDS.out]
    rw [HDS0.out]
    rfl
  have hs16 := HHA.out.s16
  have hhs := HHA.out.hs
  have hXok : HD.ok ⟨(i : Int) + 1, name, 1, (0 : Int), sumS data, 0⟩ := ⟨⟨by show (0 : Int) ≤ (i : Int) + 1; omega, by show (i : Int) + 1 < 256; omega⟩, hn16, ⟨by show (0 : Int) ≤ 1; omega, by show 1 < (4294967296 : Int); omega⟩, ⟨by show (0 : Int) ≤ (0 : Int); omega, by show (0 : Int) < 4294967296; omega⟩, xor_u32_bd _ _, ⟨by show (0 : Int) ≤ 0; omega, by show 0 < (65536 : Int); omega⟩⟩
  have hL := lay_ok W7 o7 t g gs ga S hM7 ht i hi hS HHA.out.fs hs16 (EP.mk ⟨⟨(i : Int) + 1, name, 1, (0 : Int), sumS data, 0⟩, hh, ds⟩ ⟨A2, 0, c2⟩) hR7 hXok (fun y hy => ⟨by have := (HDM.out y hy).1; omega, (HDM.out y hy).2⟩) ⟨HHM.out.1, by have := HHM.out.2; show hh < ((S.ar i).sec : Int); omega⟩ A 0 c td data hD7 htd hu (by omega) HDSL.out (by have := HDSL.out; rw [hpe]; show 0 + ds.length + 2 < _; rw [HDS0.out]; decide)
  rw [layS_lim _ _ _ _ hlim] at hL
  have hblim := layB_lim (S.ar i) ⟨⟨(i : Int) + 1, name, 1, (0 : Int), sumS data, 0⟩, hh, ds⟩ data S.b hlim
  have hbp := layB_pend (S.ar i) ⟨⟨(i : Int) + 1, name, 1, (0 : Int), sumS data, 0⟩, hh, ds⟩ data S.b
  have HPS : putS S i none name data = SV.setE (SV.setB S (layB (S.ar i) ⟨⟨(i : Int) + 1, name, 1, (0 : Int), sumS data, 0⟩, hh, ds⟩ data S.b)) i (((SV.setB S (layB (S.ar i) ⟨⟨(i : Int) + 1, name, 1, (0 : Int), sumS data, 0⟩, hh, ds⟩ data S.b)).ar i).ents ++ [⟨⟨(i : Int) + 1, name, 1, (0 : Int), sumS data, 0⟩, hh, ds⟩]) := by
    unfold putS
    simp only
    rw [HNE]
  have HX := Lib.hid HPS
  have hDe : ((SV.setB S (layB (S.ar i) ⟨⟨(i : Int) + 1, name, 1, (0 : Int), sumS data, 0⟩, hh, ds⟩ data S.b)).ar i).ents.length ≤ (S.ar i).ents.length := Nat.le_refl _
  have hdd : (SV.setB S (layB (S.ar i) ⟨⟨(i : Int) + 1, name, 1, (0 : Int), sumS data, 0⟩, hh, ds⟩ data S.b)).dead = false := hd
  have hDar : ((SV.setB S (layB (S.ar i) ⟨⟨(i : Int) + 1, name, 1, (0 : Int), sumS data, 0⟩, hh, ds⟩ data S.b)).ar i).ten = (S.ar i).ten := rfl
  clear HPS
  generalize hLB : (layB (S.ar i) ⟨⟨(i : Int) + 1, name, 1, (0 : Int), sumS data, 0⟩, hh, ds⟩ data S.b) = lb at *
  clear hLB HNE hDar hpe hlim hblim hbp
  have HL := Lib.hid hL
  have HOK := Lib.hid hXok
  clear hL hXok
  have e0 := Blk.cell (i := 0) hB7 rfl
  have e1 := Blk.cell (i := 1) hB7 rfl
  have e2 := Blk.cell (i := 2) hB7 rfl
  have e3 := Blk.cell (i := 3) hB7 rfl
  have e4 := Blk.cell (i := 4) hB7 rfl
  have e5 := Blk.cell (i := 5) hB7 rfl
  have e6 := Blk.cell (i := 6) hB7 rfl
  have e7 := Blk.cell (i := 7) hB7 rfl
  go_upto_region 21 with (go_at_call 56; refine Calls.mono HL.out ?_; rintro e w8 ⟨rfl, l1, l2, o8, l3, l4⟩; simp only [if_true])
  have HMC := Lib.hid l3
  have hkc : Kp (k20 t) W7 o7 w8 o8 := l4.mono (fun q h => ⟨by rcases h with h | h | h <;> omega, by rcases h with h | h | h <;> omega⟩)
  have hokb : BOk (SV.setB S lb).b := l1
  have hnb : (SV.setB S lb).b.n = S.b.n := l2
  clear l1 l2 l3 l4
  obtain ⟨⟨zA2, zn2, zc2⟩, ps2, hg2, hb2x, hz2, hes2⟩ := HMC.out.ar i hi
  have hpn : ps2.length < 2 ^ 30 := by
    have h1 : ps2.length = ((SV.setB S lb).ar i).ents.length := by rw [← hes2.1, List.length_map]
    have := HHA.out.el
    omega
  have hq8 := (hB7.keep hkc (by rw [hO7]; intro h; have := h.1; omega)).1
  have hr8 := hR7.keep i64K_K (by decide) hkc (by intro h; have := h.1; omega)
  have hS2 : w8.cell? ⟨ga i, 4, none⟩ = some (.slice zA2 zn2 zc2) ∧ w8.cell? ⟨q7, 0, none⟩ = some (.int .i64 ((i : Int) + 1)) ∧ w8.cell? ⟨q7, 1, none⟩ = some (.string name) ∧ w8.cell? ⟨q7, 2, none⟩ = some (.int .u32 1) ∧ w8.cell? ⟨q7, 3, none⟩ = some (.int .i64 (0 : Int)) ∧ w8.cell? ⟨q7, 4, none⟩ = some (.int .u32 (sumS data)) ∧ w8.cell? ⟨q7, 5, none⟩ = some (.int .i64 0) ∧ w8.cell? ⟨q7, 6, none⟩ = some (.int .i64 hh) ∧ w8.cell? ⟨q7, 7, none⟩ = some (.slice A2 0 c2) :=
    ⟨Blk.cell (i := 4) hb2x rfl, Blk.cell (i := 0) hq8 rfl, Blk.cell (i := 1) hq8 rfl, Blk.cell (i := 2) hq8 rfl, Blk.cell (i := 3) hq8 rfl, Blk.cell (i := 4) hq8 rfl, Blk.cell (i := 5) hq8 rfl, Blk.cell (i := 6) hq8 rfl, Blk.cell (i := 7) hq8 rfl⟩
  have HZ2 := Lib.hid hz2
  have HES := Lib.hid hes2
  have HB2 := Lib.hid hb2x
  have HG2 := Lib.hid hg2
  have HR8 := Lib.hid hr8
  have HKC := Lib.hid hkc
  have HK37 := Lib.hid hK37
  clear e0 e1 e2 e3 e4 e5 e6 e7
  clear hz2 hes2 hb2x hg2 hr8 hkc hq8 hR7 hD7 hM7 hB7 hK37
  refine start_ (n := 11) (S := fun w' => w'.cell? ⟨ga i, 4, none⟩ = some (.slice zA2 zn2 zc2) ∧ w'.cell? ⟨q7, 0, none⟩ = some (.int .i64 ((i : Int) + 1)) ∧ w'.cell? ⟨q7, 1, none⟩ = some (.string name) ∧ w'.cell? ⟨q7, 2, none⟩ = some (.int .u32 1) ∧ w'.cell? ⟨q7, 3, none⟩ = some (.int .i64 (0 : Int)) ∧ w'.cell? ⟨q7, 4, none⟩ = some (.int .u32 (sumS data)) ∧ w'.cell? ⟨q7, 5, none⟩ = some (.int .i64 0) ∧ w'.cell? ⟨q7, 6, none⟩ = some (.int .i64 hh) ∧ w'.cell? ⟨q7, 7, none⟩ = some (.slice A2 0 c2)) (ds := [7, 10]) #[false, false, false, false, false, false, false, false, false, false, false] (by kernel_rfl) rfl rfl hS2 (fun hHeld => ?_)
  refine pure_ (i := 0) (N := some 129) (v := ?_) (a' := ?_) #[true, false, false, false, false, false, false, false, false, false, false] rfl rfl (by kernel_rfl) (fun _ _ _ h => h) (Or.inl ⟨by rfl, ?_⟩) ?_ ?_
  rotate_left
  · intro w'
    go_simp
    with_reducible rfl
  rotate_left
  · simp only [Act.put, List.setIfInBounds_toArray, List.set_cons_zero, List.set_cons_succ, i64_w, i32_w]
    rfl
  refine pure_ (i := 1) (N := some 130) (v := ?_) (a' := ?_) #[true, true, false, false, false, false, false, false, false, false, false] rfl rfl (by kernel_rfl) (fun _ _ _ h => h) (Or.inl ⟨by rfl, ?_⟩) ?_ ?_
  rotate_left
  · intro w'
    go_simp
    with_reducible rfl
  rotate_left
  · simp only [Act.put, List.setIfInBounds_toArray, List.set_cons_zero, List.set_cons_succ, i64_w, i32_w]
    rfl
  refine pure_ (i := 2) (N := some 131) (v := ?_) (a' := ?_) #[true, true, true, false, false, false, false, false, false, false, false] rfl rfl (by kernel_rfl) (fun _ _ _ h => h) (Or.inl ⟨by rfl, ?_⟩) ?_ ?_
  rotate_left
  · intro w'
    go_simp
    with_reducible rfl
  rotate_left
  · simp only [Act.put, List.setIfInBounds_toArray, List.set_cons_zero, List.set_cons_succ, i64_w, i32_w]
    rfl
  refine pure_ (i := 3) (N := some 132) (v := ?_) (a' := ?_) #[true, true, true, true, false, false, false, false, false, false, false] rfl rfl (by kernel_rfl) (fun _ _ _ h => h) (Or.inl ⟨by rfl, ?_⟩) ?_ ?_
  rotate_left
  · intro w'
    go_simp
    with_reducible rfl
  rotate_left
  · simp only [Act.put, List.setIfInBounds_toArray, List.set_cons_zero, List.set_cons_succ, i64_w, i32_w]
    rfl
  refine take_ (i := 4) (N := some 133) (v := ?_) (a' := ?_) #[true, true, true, true, true, false, false, false, false, false, false] rfl rfl (by kernel_rfl) (fun _ _ _ h => h) (Or.inl ⟨by rfl, ?_⟩) hHeld ?_ ?_
  rotate_left
  · intro w' s0
    obtain ⟨q1, q2, q3, q4, q5, q6, q7x, q8, q9⟩ := s0
    go_simp
    with_reducible rfl
  rotate_left
  · simp only [Act.put, List.setIfInBounds_toArray, List.set_cons_zero, List.set_cons_succ, i64_w, i32_w]
    rfl
  refine take_ (i := 5) (N := some 134) (v := ?_) (a' := ?_) #[true, true, true, true, true, true, false, false, false, false, false] rfl rfl (by kernel_rfl) (fun _ _ _ h => h) (Or.inl ⟨by rfl, ?_⟩) hHeld ?_ ?_
  rotate_left
  · intro w' s0
    obtain ⟨q1, q2, q3, q4, q5, q6, q7x, q8, q9⟩ := s0
    go_simp
    with_reducible rfl
  rotate_left
  · simp only [Act.put, List.setIfInBounds_toArray, List.set_cons_zero, List.set_cons_succ, i64_w, i32_w]
    rfl
  refine one_ (i := 6) (N := some 135) #[true, true, true, true, true, true, true, false, false, false, false] rfl rfl (by kernel_rfl) (by decide) (fun K hK => ?_)
  refine value_ (v := .slice (some ⟨w8.drew.heap.size, 0, none⟩) 1 1) (w1 := w8.drew.alloc (.cells #[.int .i64 ((i : Int) + 1), .string name, .int .u32 1, .int .i64 (0 : Int), .int .u32 (sumS data), .int .i64 0, .int .i64 hh, .slice A2 0 c2] 107)) (by rfl) rfl (by go_simp) ?_
  refine hK.out _ _ ⟨cellOf (ba _) hHeld.1, cellOf (ba _) hHeld.2.1, cellOf (ba _) hHeld.2.2.1, cellOf (ba _) hHeld.2.2.2.1, cellOf (ba _) hHeld.2.2.2.2.1, cellOf (ba _) hHeld.2.2.2.2.2.1, cellOf (ba _) hHeld.2.2.2.2.2.2.1, cellOf (ba _) hHeld.2.2.2.2.2.2.2.1, cellOf (ba _) hHeld.2.2.2.2.2.2.2.2⟩ (fun hHeld => ?_)
  clear hK K
  refine norm_ (a' := ?_) ?_ ?_
  rotate_left
  · show Act.put _ (some 135) _ = _
    simp only [Act.put, List.setIfInBounds_toArray, List.set_cons_zero, List.set_cons_succ, i64_w, i32_w]
    rfl
  refine last_ (i := 7) (N := some 136) #[true, true, true, true, true, true, true, true, false, false, false] rfl rfl (by kernel_rfl) (by decide) (fun K hK => ?_)
  refine Kd.R_append_step enK (w0 := w8.drew) 0 (by rfl) (.tmp 133) (.tmp 135) 100 107 (.agg #[.int .i64 0, .string ⟨#[]⟩, .int .u32 0, .int .i64 0, .int .u32 0, .int .i64 0, .int .i64 0, .slice none 0 0]) 88 rfl Tryz.underlying100 info107 rfl (by decide) (by decide) (Sl.mk zA2 zn2 zc2).enc ps2 (EP.mk ⟨⟨(i : Int) + 1, name, 1, (0 : Int), sumS data, 0⟩, hh, ds⟩ ⟨A2, 0, c2⟩) [.int .i64 ((i : Int) + 1), .string name, .int .u32 1, .int .i64 (0 : Int), .int .u32 (sumS data), .int .i64 0, .int .i64 hh, .slice A2 0 c2] (fun k => tagged w8.drew o8 (t + 12 + i) k = t + 12 + i) (fun _ => False) rfl rfl rfl (fun _ hk => hk.elim) (fun q hq => tagged_new (show w8.drew.heap.size ≤ q from hq)) (Ow.alloc (w := w8.drew) HZ2.out (Below.refl _ _)) (Below.refl 0 _) (Nat.zero_le _) (by omega) ?_
  intro v3 wa ho hb hg3 hat
  obtain ⟨s3, rfl, ho', hk'⟩ := Ow.pushed (w := w8.drew) HZ2.out (Below.refl _ _) ho hg3
  clear ho hb hg3 hat
  refine hK.out _ _ ?_
  clear hK K
  refine norm_ (a' := ?_) ?_ ?_
  rotate_left
  · show Act.put _ (some 136) _ = _
    simp only [Act.put, List.setIfInBounds_toArray, List.set_cons_zero, List.set_cons_succ, i64_w, i32_w]
    rfl
  refine pure_ (i := 8) (N := some 137) (v := ?_) (a' := ?_) #[true, true, true, true, true, true, true, true, true, false, false] rfl rfl (by kernel_rfl) (fun _ _ _ h => h) (Or.inl ⟨by rfl, ?_⟩) ?_ ?_
  rotate_left
  · intro w'
    go_simp
    with_reducible rfl
  rotate_left
  · simp only [Act.put, List.setIfInBounds_toArray, List.set_cons_zero, List.set_cons_succ, i64_w, i32_w]
    rfl
  refine pure_ (i := 9) (N := some 138) (v := ?_) (a' := ?_) #[true, true, true, true, true, true, true, true, true, true, false] rfl rfl (by kernel_rfl) (fun _ _ _ h => h) (Or.inl ⟨by rfl, ?_⟩) ?_ ?_
  rotate_left
  · intro w'
    go_simp
    with_reducible rfl
  rotate_left
  · simp only [Act.put, List.setIfInBounds_toArray, List.set_cons_zero, List.set_cons_succ, i64_w, i32_w]
    rfl
  refine last_ (i := 10) (N := none) #[true, true, true, true, true, true, true, true, true, true, true] rfl rfl (by kernel_rfl) (by decide) (fun K hK => ?_)
  have hbz := Blk.keep (w := w8.drew) HB2.out hk' (by rw [HG2.out]; omega)
  have c3 := Blk.cell (i := 4) hbz.1 rfl
  have z3 := Blk.frozen (i := 4) hbz.1
  refine skip_ (w1 := wa.setCell ⟨ga i, 4, none⟩ s3.enc) (by rfl) rfl (by simp only [Sl.enc]; go_simp) ?_
  refine hK.out _ _ ?_
  clear hK K
  refine done_ (by kernel_rfl) ?_
  have HEE := Lib.hid (entry_endD (S := (SV.setB S lb)) (x := (EP.mk ⟨⟨(i : Int) + 1, name, 1, (0 : Int), sumS data, 0⟩, hh, ds⟩ ⟨A2, 0, c2⟩)) HMC.out ht i hi HG2.out HB2.out HES.out HR8.out ho' hk')
  clear ho' hk' hbz c3 z3 hHeld hS2
  have HDN := Lib.hid (done_nil _ _ t g gs ga _ HEE.out.1 ht hdd)
  go_wp2_with (go_at_call 58; refine HDN.out.mono ?_; rintro e wb ⟨rfl, ob, d1, d2⟩)
  go_ret
  rw [HX.out]
  exact ⟨rfl, hokb, hnb, ob, d1, (((HK37.out.mono (fun _ h => h.elim)).trans HKC.out).trans HEE.out.2).trans d2⟩
end Go.Proofs.YtmofiicjaldmiaaGreatDoor.SwC
namespace Go.Proofs.YtmofiicjaldmiaaGreatDoor.SwD
open Go.RowKit Go.Shelf Go.Proofs.YtmofiicjaldmiaaGreatDoorW.PrintWords Go.Proofs.YtmofiicjaldmiaaGreatDoorW.PrintLast Go.Proofs.YtmofiicjaldmiaaGreatDoor.SvA Go.Proofs.YtmofiicjaldmiaaGreatDoor.SvB Go.Proofs.YtmofiicjaldmiaaGreatDoor.SvC Go.Proofs.YtmofiicjaldmiaaGreatDoor.SvD Go.Proofs.YtmofiicjaldmiaaGreatDoor.SvE Go.Proofs.YtmofiicjaldmiaaGreatDoor.SvF Go.Proofs.YtmofiicjaldmiaaGreatDoor.SvG Go.Proofs.YtmofiicjaldmiaaGreatDoor.SvH Go.Proofs.YtmofiicjaldmiaaGreatDoor.SvI Go.Proofs.YtmofiicjaldmiaaGreatDoor.SvJ Go.Proofs.YtmofiicjaldmiaaGreatDoor.SvK Go.Proofs.YtmofiicjaldmiaaGreatDoor.SvL Go.Proofs.YtmofiicjaldmiaaGreatDoor.SvM Go.Proofs.YtmofiicjaldmiaaGreatDoor.SvN Go.Proofs.YtmofiicjaldmiaaGreatDoor.SvO Go.Proofs.YtmofiicjaldmiaaGreatDoor.SvP Go.Proofs.YtmofiicjaldmiaaGreatDoor.SvQ Go.Proofs.YtmofiicjaldmiaaGreatDoor.SvR Go.Proofs.YtmofiicjaldmiaaGreatDoor.SvS Go.Proofs.YtmofiicjaldmiaaGreatDoor.SvT Go.Proofs.YtmofiicjaldmiaaGreatDoor.SvU Go.Proofs.YtmofiicjaldmiaaGreatDoor.SvV Go.Proofs.YtmofiicjaldmiaaGreatDoor.SvW Go.Proofs.YtmofiicjaldmiaaGreatDoor.SvX Go.Proofs.YtmofiicjaldmiaaGreatDoor.SvY Go.Proofs.YtmofiicjaldmiaaGreatDoor.SvZ Go.Proofs.YtmofiicjaldmiaaGreatDoor.SwA
set_option linter.unusedVariables false
set_option linter.unusedSimpArgs false
set_option maxRecDepth 100000 in
set_option maxHeartbeats 4000000 in
theorem put_neg_1 (w : World) (own : Nat → Nat) (t g gs : Nat) (ga : Nat → Nat) (S : SV) (H : SvMem w own t g gs ga S) (ht : t ≠ 0) (i : Nat) (hi : i < 8) (hS : BOk S.b) (hA : AOk S i) (name : ByteArray) (hs : name.size < 2 ^ 62) (hn16 : name.size ≤ 16) (hd : S.dead = false) (hok : nameOk name = true) (A : Option Addr) (n c td : Nat) (data : List Int) (hda : Rd u8K w own td ⟨A, n, c⟩ data) (htd : ¬ k3 t td) (hu : u8s data) (hn : n ≤ 131072) (hf : findI (fun e => e.hd.name == name) (S.ar i).ents < 0) (hroom : freeH (S.ar i) ≠ [] ∧ (freeD (S.ar i) (many n)).length = many n) (hlim : S.b.lim = false) (hpe : S.b.pend = []) (hn0 : 0 < n) :
    Calls Tryz.prog 23 #[pt g, .int .i64 ((i : Int) + 1), .string name, .slice A n c] w (ActP w own t g gs ga S.b.n (putS S i none name data)) := by
  have hcn := named_yes w own t g gs ga S H i hi name hs hd hok (by have := hA.el; omega)
  have HH := Lib.hid H
  generalize hr : findI (fun e : EN => e.hd.name == name) (S.ar i).ents = r at *
  have hrk : decide (r ≥ 0) = false := by simp; omega
  clear hr
  have HC := Lib.hid hcn
  have HFH := Lib.hid (fun (W : World) (h : Below w.heap.size w W) => heads_ok W _ _ _ _ _ ((HH.out.below h).ar i hi) (by have := hA.el; omega) (by have := hA.s16; have := hA.hs; omega))
  have HFD := Lib.hid (fun (W : World) (h : Below w.heap.size w W) => data_ok W _ _ _ _ _ ((HH.out.below h).ar i hi) (by have := hA.el; omega) (by have := hA.s16; have := hA.hs; omega) (by have := hA.s16; omega) (fun e he => by have := (hA.eo e he).2.2.2; omega) (many n) (by unfold many; omega))
  have HAR := Lib.hid (fun (W : World) (h : Below w.heap.size w W) => ar_c1 ((HH.out.below h).ar i hi))
  have HDA := Lib.hid hda
  have hdl : data.length = n := hda.1.1
  have hnc : n ≤ c := hda.2.1
  have HHA := Lib.hid hA
  clear hcn H hok hda hA
  go_enter Tryz.func23, Tryz.ntmps23
  go_upto_region 7 with (first | (go_at_call 50; refine HC.out.mono ?_; rintro e w1 ⟨rfl, hb1⟩; have q3 := (HAR.out w1 hb1).2.2.2) | (go_at_call 51; refine Calls.mono (HFH.out w1 hb1) ?_; rintro e w2 ⟨⟨A1, n1, c1⟩, rfl, hN1⟩; unfold Sl.enc; dsimp only))
  have hb2 : Below w.heap.size w w2 := hb1.trans (hN1.below.mono hb1.size)
  have HN1 := Lib.hid hN1
  clear hN1 q3
  have hS0 : w2.cell? ⟨ga i, 2, none⟩ = some (.int .i64 ((S.ar i).sec : Int)) ∧ w2.cell? ⟨ga i, 3, none⟩ = some (.int .i64 ((S.ar i).heads : Int)) := ⟨(HAR.out w2 hb2).2.2.1, (HAR.out w2 hb2).2.2.2⟩
  refine start_ (n := 14) (S := fun w' => w'.cell? ⟨ga i, 2, none⟩ = some (.int .i64 ((S.ar i).sec : Int)) ∧ w'.cell? ⟨ga i, 3, none⟩ = some (.int .i64 ((S.ar i).heads : Int))) (ds := []) #[false, false, false, false, false, false, false, false, false, false, false, false, false, false] (by kernel_rfl) rfl rfl hS0 (fun hHeld => ?_)
  refine pure_ (i := 0) (N := some 38) (v := ?_) (a' := ?_) #[true, false, false, false, false, false, false, false, false, false, false, false, false, false] rfl rfl (by kernel_rfl) (fun _ _ _ h => h) (Or.inl ⟨by rfl, ?_⟩) ?_ ?_
  rotate_left
  · intro w'
    go_simp
    with_reducible rfl
  rotate_left
  · simp only [Act.put, List.setIfInBounds_toArray, List.set_cons_zero, List.set_cons_succ, i64_w, i32_w]
    rfl
  refine pure_ (i := 1) (N := some 39) (v := ?_) (a' := ?_) #[true, true, false, false, false, false, false, false, false, false, false, false, false, false] rfl rfl (by kernel_rfl) (fun _ _ _ h => h) (Or.inl ⟨by rfl, ?_⟩) ?_ ?_
  rotate_left
  · intro w'
    go_simp
    with_reducible rfl
  rotate_left
  · simp only [Act.put, List.setIfInBounds_toArray, List.set_cons_zero, List.set_cons_succ, i64_w, i32_w]
    rfl
  refine pure_ (i := 2) (N := some 40) (v := ?_) (a' := ?_) #[true, true, true, false, false, false, false, false, false, false, false, false, false, false] rfl rfl (by kernel_rfl) (fun _ _ _ h => h) (Or.inl ⟨by rfl, ?_⟩) ?_ ?_
  rotate_left
  · intro w'
    go_simp
    with_reducible rfl
  rotate_left
  · simp only [Act.put, List.setIfInBounds_toArray, List.set_cons_zero, List.set_cons_succ, i64_w, i32_w]
    rfl
  refine pure_ (i := 3) (N := some 41) (v := ?_) (a' := ?_) #[true, true, true, true, false, false, false, false, false, false, false, false, false, false] rfl rfl (by kernel_rfl) (fun _ _ _ h => h) (Or.inl ⟨by rfl, ?_⟩) ?_ ?_
  rotate_left
  · intro w'
    go_simp
    with_reducible rfl
  rotate_left
  · simp only [Act.put, List.setIfInBounds_toArray, List.set_cons_zero, List.set_cons_succ, i64_w, i32_w]
    rfl
  refine take_ (i := 4) (N := some 42) (v := ?_) (a' := ?_) #[true, true, true, true, true, false, false, false, false, false, false, false, false, false] rfl rfl (by kernel_rfl) (fun _ _ _ h => h) (Or.inl ⟨by rfl, ?_⟩) hHeld ?_ ?_
  rotate_left
  · intro w' s0
    obtain ⟨q1, q2⟩ := s0
    go_simp
    with_reducible rfl
  rotate_left
  · simp only [Act.put, List.setIfInBounds_toArray, List.set_cons_zero, List.set_cons_succ, i64_w, i32_w]
    rfl
  refine pure_ (i := 5) (N := some 43) (v := ?_) (a' := ?_) #[true, true, true, true, true, true, false, false, false, false, false, false, false, false] rfl rfl (by kernel_rfl) (fun _ _ _ h => h) (Or.inl ⟨by rfl, ?_⟩) ?_ ?_
  rotate_left
  · intro w'
    go_simp
    with_reducible rfl
  rotate_left
  · simp only [Act.put, List.setIfInBounds_toArray, List.set_cons_zero, List.set_cons_succ, i64_w, i32_w]
    rfl
  refine pure_ (i := 6) (N := some 44) (v := ?_) (a' := ?_) #[true, true, true, true, true, true, true, false, false, false, false, false, false, false] rfl rfl (by kernel_rfl) (fun _ _ _ h => h) (Or.inl ⟨by rfl, ?_⟩) ?_ ?_
  rotate_left
  · intro w'
    go_simp
    with_reducible rfl
  rotate_left
  · simp only [Act.put, List.setIfInBounds_toArray, List.set_cons_zero, List.set_cons_succ, i64_w, i32_w]
    rfl
  refine pure_ (i := 7) (N := some 45) (v := ?_) (a' := ?_) #[true, true, true, true, true, true, true, true, false, false, false, false, false, false] rfl rfl (by kernel_rfl) (fun _ _ _ h => h) (Or.inl ⟨by rfl, ?_⟩) ?_ ?_
  rotate_left
  · intro w'
    go_simp
    with_reducible rfl
  rotate_left
  · simp only [Act.put, List.setIfInBounds_toArray, List.set_cons_zero, List.set_cons_succ, i64_w, i32_w]
    rfl
  refine take_ (i := 8) (N := some 46) (v := ?_) (a' := ?_) #[true, true, true, true, true, true, true, true, true, false, false, false, false, false] rfl rfl (by kernel_rfl) (fun _ _ _ h => h) (Or.inl ⟨by rfl, ?_⟩) hHeld ?_ ?_
  rotate_left
  · intro w' s0
    obtain ⟨q1, q2⟩ := s0
    go_simp
    with_reducible rfl
  rotate_left
  · simp only [Act.put, List.setIfInBounds_toArray, List.set_cons_zero, List.set_cons_succ, i64_w, i32_w]
    rfl
  refine pure_ (i := 9) (N := some 47) (v := ?_) (a' := ?_) #[true, true, true, true, true, true, true, true, true, true, false, false, false, false] rfl rfl (by kernel_rfl) (fun _ _ _ h => h) (Or.inl ⟨by rfl, ?_⟩) ?_ ?_
  rotate_left
  · intro w'
    go_simp
    with_reducible rfl
  rotate_left
  · simp only [Act.put, List.setIfInBounds_toArray, List.set_cons_zero, List.set_cons_succ, i64_w, i32_w]
    rfl
  refine pure_ (i := 10) (N := some 48) (v := ?_) (a' := ?_) #[true, true, true, true, true, true, true, true, true, true, true, false, false, false] rfl rfl (by kernel_rfl) (fun _ _ _ h => h) (Or.inl ⟨by rfl, ?_⟩) ?_ ?_
  rotate_left
  · intro w'
    go_simp
    with_reducible rfl
  rotate_left
  · simp only [Act.put, List.setIfInBounds_toArray, List.set_cons_zero, List.set_cons_succ, i64_w, i32_w]
    rfl
  refine one_ (i := 11) (N := some 49) #[true, true, true, true, true, true, true, true, true, true, true, true, false, false] rfl rfl (by kernel_rfl) (by decide) (fun K hK => ?_)
  refine goes_ Tryz.func53 (by kernel_rfl) rfl #[.int .i64 (n : Int)] (by first | rfl | (simp [Act.eval]; done)) rfl rfl (by first | rfl | (simp [Act.eval]; done)) ?_
  refine Calls.mono (many_ok _ n (by omega)) ?_
  rintro e w' ⟨rfl, rfl⟩
  refine ⟨_, rfl, ?_⟩
  refine hK.out _ _ hHeld (fun hHeld => ?_)
  clear hK K
  refine norm_ (a' := ?_) ?_ ?_
  rotate_left
  · show Act.put _ (some 49) _ = _
    simp only [Act.put, List.setIfInBounds_toArray, List.set_cons_zero, List.set_cons_succ, i64_w, i32_w]
    rfl
  refine one_ (i := 12) (N := some 50) #[true, true, true, true, true, true, true, true, true, true, true, true, true, false] rfl rfl (by kernel_rfl) (by decide) (fun K hK => ?_)
  refine goes_ Tryz.func51 (by kernel_rfl) rfl #[pt (ga i), .int .i64 ((S.ar i).heads : Int), .int .i64 ((S.ar i).sec : Int), .int .i64 (many n : Int), .func (.func 54) #[] #[]] (by first | rfl | (simp [Act.eval]; done)) rfl rfl (by first | rfl | (simp [Act.eval]; done)) ?_
  refine Calls.mono (HFD.out w2.drew hb2.drew) ?_
  rintro e w3 ⟨⟨A2, n2, c2⟩, rfl, hN2⟩
  unfold Sl.enc; dsimp only
  refine ⟨_, rfl, ?_⟩
  refine hK.out _ _ ⟨cellOf hN2.below hHeld.1, cellOf hN2.below hHeld.2⟩ (fun hHeld => ?_)
  clear hK K
  refine norm_ (a' := ?_) ?_ ?_
  rotate_left
  · show Act.put _ (some 50) _ = _
    simp only [Act.put, List.setIfInBounds_toArray, List.set_cons_zero, List.set_cons_succ, i64_w, i32_w]
    rfl
  refine pure_ (i := 13) (N := some 13) (v := ?_) (a' := ?_) #[true, true, true, true, true, true, true, true, true, true, true, true, true, true] rfl rfl (by kernel_rfl) (fun _ _ _ h => h) (Or.inl ⟨by rfl, ?_⟩) ?_ ?_
  rotate_left
  · intro w'
    go_simp
    with_reducible rfl
  rotate_left
  · simp only [Act.put, List.setIfInBounds_toArray, List.set_cons_zero, List.set_cons_succ, i64_w, i32_w]
    rfl
  refine done_ (by kernel_rfl) ?_
  have hb3 : Below w.heap.size w w3 := hb2.drew.trans (hN2.below.mono hb2.size)
  have HN2 := Lib.hid hN2
  clear hHeld hN2 hS0
  go_upto_region 9 with (fail)
  obtain ⟨hh, hfh⟩ : ∃ hh, freeH (S.ar i) = [hh] := by
    have := freeH_len (S.ar i)
    rcases hfl : freeH (S.ar i) with _ | ⟨x, _ | ⟨y, l⟩⟩
    · exact absurd hfl hroom.1
    · exact ⟨x, rfl⟩
    · rw [hfl] at this; simp at this
  rw [hfh] at HN1
  obtain rfl : n1 = 1 := HN1.out.len
  obtain ⟨b1, hA1, hb1l⟩ := HN1.out.hd Nat.one_pos
  dsimp only at hA1
  subst hA1
  have hhm : 0 ≤ hh ∧ hh < ((S.ar i).heads : Int) := by have := freeH_mem (show hh ∈ freeH (S.ar i) by rw [hfh]; exact List.mem_singleton.2 rfl); exact ⟨this.1, this.2.1⟩
  generalize hds : freeD (S.ar i) (many n) = ds at *
  have hdm : ∀ x ∈ ds, ((S.ar i).heads : Int) ≤ x ∧ x < ((S.ar i).sec : Int) := fun x hx => by rw [← hds] at hx; have := freeD_mem hx; exact ⟨this.1, this.2.1⟩
  have hdsl : ds.length = many n := hroom.2
  have hn2 : n2 = many n := HN2.out.len.trans hdsl
  subst hn2
  have hm0 : 0 < many n := by unfold many; omega
  have hm1 : (0 : Int) < (many n : Int) := by omega
  have hm2 : decide ((many n : Int) > 0) = true := decide_eq_true hm1
  have ed : decide ((many n : Int) < (many n : Int)) = false := by simp
  have hm4 : many n < 2 ^ 30 := by unfold many; omega
  obtain ⟨b2, hA2, hb2l⟩ := HN2.out.hd hm0
  dsimp only at hA2
  subst hA2
  obtain ⟨d0, hd0⟩ : ∃ d0, ds[0]? = some d0 := ⟨_, List.getElem?_eq_getElem (by omega)⟩
  have HDM := Lib.hid hdm
  have HHM := Lib.hid hhm
  have HDS := Lib.hid hds
  have HFH' := Lib.hid hfh
  have HDSL := Lib.hid hdsl
  have HRM := Lib.hid hroom
  have HDL := Lib.hid hdl
  clear hdm hhm hds hfh hdsl hroom hdl
  have HD0 := Lib.hid hd0
  clear hd0
  have HSUM := Lib.hid (sum_ok w3 A n c data (BytesAt.below (B := 0) (A := A) (n := n) HDA.out.1 hb3) hu (by omega) hnc)
  go_upto_region 12 with (first | (go_at_call 53; refine (many_ok _ n (by omega)).mono ?_; rintro e w' ⟨rfl, rfl⟩) | (go_at_call 55; refine HSUM.out.mono ?_; rintro e w' ⟨rfl, rfl⟩))
  have HB0 := Lib.hid (hb3.alloc hb3.size (Obj.cells #[.int .i64 ((i : Int) + 1), .string name, .int .u32 1, .int .i64 (n : Int), .int .u32 (sumS data), .int .i64 0] 105))
  have hB4 : Blk (w3.alloc (Obj.cells #[.int .i64 ((i : Int) + 1), .string name, .int .u32 1, .int .i64 (n : Int), .int .u32 (sumS data), .int .i64 0] 105)) w3.heap.size #[.int .i64 ((i : Int) + 1), .string name, .int .u32 1, .int .i64 (n : Int), .int .u32 (sumS data), .int .i64 0] 105 := blkNew rfl
  have hbA := ba (w := w3) (Obj.cells #[.int .i64 ((i : Int) + 1), .string name, .int .u32 1, .int .i64 (n : Int), .int .u32 (sumS data), .int .i64 0] 105)
  have hz4 : (w3.alloc (Obj.cells #[.int .i64 ((i : Int) + 1), .string name, .int .u32 1, .int .i64 (n : Int), .int .u32 (sumS data), .int .i64 0] 105)).heap.size = w3.heap.size + 1 := by simp
  generalize w3.alloc (Obj.cells #[.int .i64 ((i : Int) + 1), .string name, .int .u32 1, .int .i64 (n : Int), .int .u32 (sumS data), .int .i64 0] 105) = W4 at *
  have hpw : w.heap.size ≤ w3.heap.size := hb3.size
  have hB5 := hB4
  have hb5 := hbA
  have hz5 := hz4
  clear hB4 hbA hz4
  have c5 : W4.cell? ⟨w3.heap.size, 5, none⟩ = some (.int .i64 0) := Blk.cell (i := 5) hB5 rfl
  have z5 : W4.frozen? ⟨w3.heap.size, 5, none⟩ = false := Blk.frozen hB5
  have cd0 : W4.cell? ⟨b2, 0, none⟩ = some (.int .i64 d0) := cellOf hb5 (HN2.out.cell 0 d0 HD0.out)
  go_upto_region 16 with (fail)
  have hB6 := Blk.set (i := 5) hB5 (.int .i64 d0)
  have hb6 : Below w3.heap.size w3 (W4.setCell ⟨w3.heap.size, 5, none⟩ (.int .i64 d0)) := hb5.setCell (p := ⟨w3.heap.size, 5, none⟩) (Nat.le_refl _) _
  have hz6 : (W4.setCell ⟨w3.heap.size, 5, none⟩ (.int .i64 d0)).heap.size = w3.heap.size + 1 := by rw [World.size_setCell]; exact hz5
  generalize W4.setCell ⟨w3.heap.size, 5, none⟩ (.int .i64 d0) = W6 at *
  clear c5 z5 cd0 hB5 hb5 hz5
  have ch : W6.cell? ⟨b1, 0, none⟩ = some (.int .i64 hh) := cellOf hb6 (cellOf HN2.out.below (HN1.out.cell 0 hh rfl))
  simp at hB6
  have hS1 : W6.cell? ⟨w3.heap.size, 0, none⟩ = some (.int .i64 ((i : Int) + 1)) ∧ W6.cell? ⟨w3.heap.size, 1, none⟩ = some (.string name) ∧ W6.cell? ⟨w3.heap.size, 2, none⟩ = some (.int .u32 1) ∧ W6.cell? ⟨w3.heap.size, 3, none⟩ = some (.int .i64 (n : Int)) ∧ W6.cell? ⟨w3.heap.size, 4, none⟩ = some (.int .u32 (sumS data)) ∧ W6.cell? ⟨w3.heap.size, 5, none⟩ = some (.int .i64 d0) ∧ W6.cell? ⟨b1, 0, none⟩ = some (.int .i64 hh) :=
    ⟨Blk.cell (i := 0) hB6 rfl, Blk.cell (i := 1) hB6 rfl, Blk.cell (i := 2) hB6 rfl, Blk.cell (i := 3) hB6 rfl, Blk.cell (i := 4) hB6 rfl, Blk.cell (i := 5) hB6 rfl, ch⟩
  clear ch
  refine start_ (n := 8) (S := fun w' => w'.cell? ⟨w3.heap.size, 0, none⟩ = some (.int .i64 ((i : Int) + 1)) ∧ w'.cell? ⟨w3.heap.size, 1, none⟩ = some (.string name) ∧ w'.cell? ⟨w3.heap.size, 2, none⟩ = some (.int .u32 1) ∧ w'.cell? ⟨w3.heap.size, 3, none⟩ = some (.int .i64 (n : Int)) ∧ w'.cell? ⟨w3.heap.size, 4, none⟩ = some (.int .u32 (sumS data)) ∧ w'.cell? ⟨w3.heap.size, 5, none⟩ = some (.int .i64 d0) ∧ w'.cell? ⟨b1, 0, none⟩ = some (.int .i64 hh)) (ds := []) #[false, false, false, false, false, false, false, false] (by kernel_rfl) rfl rfl hS1 (fun hHeld => ?_)
  refine take_ (i := 0) (N := some 106) (v := ?_) (a' := ?_) #[true, false, false, false, false, false, false, false] rfl rfl (by kernel_rfl) (fun _ _ _ h => h) (Or.inl ⟨by rfl, ?_⟩) hHeld ?_ ?_
  rotate_left
  · intro w' s0
    obtain ⟨q1, q2, q3, q4, q5, q6, q7⟩ := s0
    go_simp
    with_reducible rfl
  rotate_left
  · simp only [Act.put, List.setIfInBounds_toArray, List.set_cons_zero, List.set_cons_succ, i64_w, i32_w]
    rfl
  refine pure_ (i := 1) (N := some 107) (v := ?_) (a' := ?_) #[true, true, false, false, false, false, false, false] rfl rfl (by kernel_rfl) (fun _ _ _ h => h) (Or.inl ⟨by rfl, ?_⟩) ?_ ?_
  rotate_left
  · intro w'
    go_simp
    with_reducible rfl
  rotate_left
  · simp only [Act.put, List.setIfInBounds_toArray, List.set_cons_zero, List.set_cons_succ, i64_w, i32_w]
    rfl
  refine pure_ (i := 2) (N := some 108) (v := ?_) (a' := ?_) #[true, true, true, false, false, false, false, false] rfl rfl (by kernel_rfl) (fun _ _ _ h => h) (Or.inl ⟨by rfl, ?_⟩) ?_ ?_
  rotate_left
  · intro w'
    go_simp
    with_reducible rfl
  rotate_left
  · simp only [Act.put, List.setIfInBounds_toArray, List.set_cons_zero, List.set_cons_succ, i64_w, i32_w]
    rfl
  refine take_ (i := 3) (N := some 109) (v := ?_) (a' := ?_) #[true, true, true, true, false, false, false, false] rfl rfl (by kernel_rfl) (fun _ _ _ h => h) (Or.inl ⟨by rfl, ?_⟩) hHeld ?_ ?_
  rotate_left
  · intro w' s0
    obtain ⟨q1, q2, q3, q4, q5, q6, q7⟩ := s0
    go_simp
    with_reducible rfl
  rotate_left
  · simp only [Act.put, List.setIfInBounds_toArray, List.set_cons_zero, List.set_cons_succ, i64_w, i32_w]
    rfl
  refine pure_ (i := 4) (N := some 110) (v := ?_) (a' := ?_) #[true, true, true, true, true, false, false, false] rfl rfl (by kernel_rfl) (fun _ _ _ h => h) (Or.inl ⟨by rfl, ?_⟩) ?_ ?_
  rotate_left
  · intro w'
    go_simp
    with_reducible rfl
  rotate_left
  · simp only [Act.put, List.setIfInBounds_toArray, List.set_cons_zero, List.set_cons_succ, i64_w, i32_w]
    rfl
  refine pure_ (i := 5) (N := some 111) (v := ?_) (a' := ?_) #[true, true, true, true, true, true, false, false] rfl rfl (by kernel_rfl) (fun _ _ _ h => h) (Or.inl ⟨by rfl, ?_⟩) ?_ ?_
  rotate_left
  · intro w'
    go_simp
    with_reducible rfl
  rotate_left
  · simp only [Act.put, List.setIfInBounds_toArray, List.set_cons_zero, List.set_cons_succ, i64_w, i32_w]
    rfl
  refine one_ (i := 6) (N := some 16) #[true, true, true, true, true, true, true, false] rfl rfl (by kernel_rfl) (by decide) (fun K hK => ?_)
  refine value_ (v := pt W6.drew.heap.size) (w1 := W6.drew.alloc (.cells #[.int .i64 0, .string ⟨#[]⟩, .int .u32 0, .int .i64 0, .int .u32 0, .int .i64 0, .int .i64 0, .slice none 0 0] 107)) (by rfl) rfl (by go_simp) ?_
  refine hK.out _ _ ⟨cellOf (ba _) hHeld.1, cellOf (ba _) hHeld.2.1, cellOf (ba _) hHeld.2.2.1, cellOf (ba _) hHeld.2.2.2.1, cellOf (ba _) hHeld.2.2.2.2.1, cellOf (ba _) hHeld.2.2.2.2.2.1, cellOf (ba _) hHeld.2.2.2.2.2.2⟩ (fun hHeld => ?_)
  clear hK K
  refine norm_ (a' := ?_) ?_ ?_
  rotate_left
  · show Act.put _ (some 16) _ = _
    simp only [Act.put, List.setIfInBounds_toArray, List.set_cons_zero, List.set_cons_succ, i64_w, i32_w]
    rfl
  refine one_ (i := 7) (N := none) #[true, true, true, true, true, true, true, true] rfl rfl (by kernel_rfl) (by decide) (fun K hK => ?_)
  refine skip_ (w1 := W6.drew.alloc (.cells #[.int .i64 ((i : Int) + 1), .string name, .int .u32 1, .int .i64 (n : Int), .int .u32 (sumS data), .int .i64 d0, .int .i64 hh, .slice (some ⟨b2, 0, none⟩) (many n) c2] 107)) (by rfl) rfl (by go_simp) ?_
  refine hK.out _ _ ⟨cellOf (ba (w := W6.drew) _) hS1.1, cellOf (ba (w := W6.drew) _) hS1.2.1, cellOf (ba (w := W6.drew) _) hS1.2.2.1, cellOf (ba (w := W6.drew) _) hS1.2.2.2.1, cellOf (ba (w := W6.drew) _) hS1.2.2.2.2.1, cellOf (ba (w := W6.drew) _) hS1.2.2.2.2.2.1, cellOf (ba (w := W6.drew) _) hS1.2.2.2.2.2.2⟩ (fun hHeld => ?_)
  clear hK K
  refine done_ (by kernel_rfl) ?_
  have hb37 : Below w3.heap.size w3 (W6.drew.alloc (.cells #[.int .i64 ((i : Int) + 1), .string name, .int .u32 1, .int .i64 (n : Int), .int .u32 (sumS data), .int .i64 d0, .int .i64 hh, .slice (some ⟨b2, 0, none⟩) (many n) c2] 107)) := hb6.drew.alloc (by rw [World.size_drew]; omega) _
  have hK37 := (Kp.below (ts := fun _ => False) (own := own) hb3 0).trans (Kp.below (ts := fun _ => False) (own := tagged w own 0) hb37 0)
  have hB7 : Blk (W6.drew.alloc (.cells #[.int .i64 ((i : Int) + 1), .string name, .int .u32 1, .int .i64 (n : Int), .int .u32 (sumS data), .int .i64 d0, .int .i64 hh, .slice (some ⟨b2, 0, none⟩) (many n) c2] 107)) W6.drew.heap.size #[.int .i64 ((i : Int) + 1), .string name, .int .u32 1, .int .i64 (n : Int), .int .u32 (sumS data), .int .i64 d0, .int .i64 hh, .slice (some ⟨b2, 0, none⟩) (many n) c2] 107 := blkNew rfl
  have hR7 := (HN2.out.rd own (w0 := w) hb2.size).keep i64K_K (by decide) (Kp.below (ts := fun _ => False) (own := tagged w own 0) hb37 0) (fun q => q)
  have hO7 : tagged w3 (tagged w own 0) 0 W6.drew.heap.size = 0 := tagged_new (by rw [World.size_drew]; omega)
  have hD7 := HDA.out.keep u8K_K (by decide) hK37 (fun q => q)
  have hM7 := HH.out.keep hK37 (fun q => q) (fun _ _ _ q => q)
  clear hb37 hHeld hS1 hB6
  generalize (W6.drew.alloc (.cells #[.int .i64 ((i : Int) + 1), .string name, .int .u32 1, .int .i64 (n : Int), .int .u32 (sumS data), .int .i64 d0, .int .i64 hh, .slice (some ⟨b2, 0, none⟩) (many n) c2] 107)) = W7 at *
  generalize tagged w3 (tagged w own 0) 0 = o7 at *
  generalize W6.drew.heap.size = q7 at *
  have HNE : newE (S.ar i) ((i : Int) + 1) name 1 data = ⟨⟨(i : Int) + 1, name, 1, (n : Int), sumS data, d0⟩, hh, ds⟩ := by
    unfold newE
    rw [HDL.out, HFH'.out, HDS.out]
    have : ds.headD 0 = d0 := by
      have := HD0.out
      cases ds with
      | nil => simp at this
      | cons x l => simp at this; exact this
    rw [this]
    rfl
  have hd0m : d0 ∈ ds := List.mem_of_getElem? HD0.out
  have hd0b := HDM.out d0 hd0m
  have hs16 := HHA.out.s16
  have hhs := HHA.out.hs
  have hXok : HD.ok ⟨(i : Int) + 1, name, 1, (n : Int), sumS data, d0⟩ := ⟨⟨by show (0 : Int) ≤ (i : Int) + 1; omega, by show (i : Int) + 1 < 256; omega⟩, hn16, ⟨by show (0 : Int) ≤ 1; omega, by show 1 < (4294967296 : Int); omega⟩, ⟨by show (0 : Int) ≤ (n : Int); omega, by show (n : Int) < 4294967296; omega⟩, xor_u32_bd _ _, ⟨by show (0 : Int) ≤ d0; omega, by show d0 < (65536 : Int); omega⟩⟩
  have hL := lay_ok W7 o7 t g gs ga S hM7 ht i hi hS HHA.out.fs hs16 (EP.mk ⟨⟨(i : Int) + 1, name, 1, (n : Int), sumS data, d0⟩, hh, ds⟩ ⟨(some ⟨b2, 0, none⟩), (many n), c2⟩) hR7 hXok (fun y hy => ⟨by have := (HDM.out y hy).1; omega, (HDM.out y hy).2⟩) ⟨HHM.out.1, by have := HHM.out.2; show hh < ((S.ar i).sec : Int); omega⟩ A n c td data hD7 htd hu (by omega) HDSL.out (by have := HDSL.out; rw [hpe]; show 0 + ds.length + 2 < _; omega)
  rw [layS_lim _ _ _ _ hlim] at hL
  have hblim := layB_lim (S.ar i) ⟨⟨(i : Int) + 1, name, 1, (n : Int), sumS data, d0⟩, hh, ds⟩ data S.b hlim
  have hbp := layB_pend (S.ar i) ⟨⟨(i : Int) + 1, name, 1, (n : Int), sumS data, d0⟩, hh, ds⟩ data S.b
  have HPS : putS S i none name data = SV.setE (SV.setB S (layB (S.ar i) ⟨⟨(i : Int) + 1, name, 1, (n : Int), sumS data, d0⟩, hh, ds⟩ data S.b)) i (((SV.setB S (layB (S.ar i) ⟨⟨(i : Int) + 1, name, 1, (n : Int), sumS data, d0⟩, hh, ds⟩ data S.b)).ar i).ents ++ [⟨⟨(i : Int) + 1, name, 1, (n : Int), sumS data, d0⟩, hh, ds⟩]) := by
    unfold putS
    simp only
    rw [HNE]
  have HX := Lib.hid HPS
  have hDe : ((SV.setB S (layB (S.ar i) ⟨⟨(i : Int) + 1, name, 1, (n : Int), sumS data, d0⟩, hh, ds⟩ data S.b)).ar i).ents.length ≤ (S.ar i).ents.length := Nat.le_refl _
  have hdd : (SV.setB S (layB (S.ar i) ⟨⟨(i : Int) + 1, name, 1, (n : Int), sumS data, d0⟩, hh, ds⟩ data S.b)).dead = false := hd
  have hDar : ((SV.setB S (layB (S.ar i) ⟨⟨(i : Int) + 1, name, 1, (n : Int), sumS data, d0⟩, hh, ds⟩ data S.b)).ar i).ten = (S.ar i).ten := rfl
  clear HPS
  generalize hLB : (layB (S.ar i) ⟨⟨(i : Int) + 1, name, 1, (n : Int), sumS data, d0⟩, hh, ds⟩ data S.b) = lb at *
  clear hLB HNE hDar hpe hlim hblim hbp
  have HL := Lib.hid hL
  have HOK := Lib.hid hXok
  clear hL hXok
  have e0 := Blk.cell (i := 0) hB7 rfl
  have e1 := Blk.cell (i := 1) hB7 rfl
  have e2 := Blk.cell (i := 2) hB7 rfl
  have e3 := Blk.cell (i := 3) hB7 rfl
  have e4 := Blk.cell (i := 4) hB7 rfl
  have e5 := Blk.cell (i := 5) hB7 rfl
  have e6 := Blk.cell (i := 6) hB7 rfl
  have e7 := Blk.cell (i := 7) hB7 rfl
  go_upto_region 21 with (go_at_call 56; refine Calls.mono HL.out ?_; rintro e w8 ⟨rfl, l1, l2, o8, l3, l4⟩; simp only [if_true])
  have HMC := Lib.hid l3
  have hkc : Kp (k20 t) W7 o7 w8 o8 := l4.mono (fun q h => ⟨by rcases h with h | h | h <;> omega, by rcases h with h | h | h <;> omega⟩)
  have hokb : BOk (SV.setB S lb).b := l1
  have hnb : (SV.setB S lb).b.n = S.b.n := l2
  clear l1 l2 l3 l4
  obtain ⟨⟨zA2, zn2, zc2⟩, ps2, hg2, hb2x, hz2, hes2⟩ := HMC.out.ar i hi
  have hpn : ps2.length < 2 ^ 30 := by
    have h1 : ps2.length = ((SV.setB S lb).ar i).ents.length := by rw [← hes2.1, List.length_map]
    have := HHA.out.el
    omega
  have hq8 := (hB7.keep hkc (by rw [hO7]; intro h; have := h.1; omega)).1
  have hr8 := hR7.keep i64K_K (by decide) hkc (by intro h; have := h.1; omega)
  have hS2 : w8.cell? ⟨ga i, 4, none⟩ = some (.slice zA2 zn2 zc2) ∧ w8.cell? ⟨q7, 0, none⟩ = some (.int .i64 ((i : Int) + 1)) ∧ w8.cell? ⟨q7, 1, none⟩ = some (.string name) ∧ w8.cell? ⟨q7, 2, none⟩ = some (.int .u32 1) ∧ w8.cell? ⟨q7, 3, none⟩ = some (.int .i64 (n : Int)) ∧ w8.cell? ⟨q7, 4, none⟩ = some (.int .u32 (sumS data)) ∧ w8.cell? ⟨q7, 5, none⟩ = some (.int .i64 d0) ∧ w8.cell? ⟨q7, 6, none⟩ = some (.int .i64 hh) ∧ w8.cell? ⟨q7, 7, none⟩ = some (.slice (some ⟨b2, 0, none⟩) (many n) c2) :=
    ⟨Blk.cell (i := 4) hb2x rfl, Blk.cell (i := 0) hq8 rfl, Blk.cell (i := 1) hq8 rfl, Blk.cell (i := 2) hq8 rfl, Blk.cell (i := 3) hq8 rfl, Blk.cell (i := 4) hq8 rfl, Blk.cell (i := 5) hq8 rfl, Blk.cell (i := 6) hq8 rfl, Blk.cell (i := 7) hq8 rfl⟩
  have HZ2 := Lib.hid hz2
  have HES := Lib.hid hes2
  have HB2 := Lib.hid hb2x
  have HG2 := Lib.hid hg2
  have HR8 := Lib.hid hr8
  have HKC := Lib.hid hkc
  have HK37 := Lib.hid hK37
  clear e0 e1 e2 e3 e4 e5 e6 e7
  clear hz2 hes2 hb2x hg2 hr8 hkc hq8 hR7 hD7 hM7 hB7 hK37
  refine start_ (n := 11) (S := fun w' => w'.cell? ⟨ga i, 4, none⟩ = some (.slice zA2 zn2 zc2) ∧ w'.cell? ⟨q7, 0, none⟩ = some (.int .i64 ((i : Int) + 1)) ∧ w'.cell? ⟨q7, 1, none⟩ = some (.string name) ∧ w'.cell? ⟨q7, 2, none⟩ = some (.int .u32 1) ∧ w'.cell? ⟨q7, 3, none⟩ = some (.int .i64 (n : Int)) ∧ w'.cell? ⟨q7, 4, none⟩ = some (.int .u32 (sumS data)) ∧ w'.cell? ⟨q7, 5, none⟩ = some (.int .i64 d0) ∧ w'.cell? ⟨q7, 6, none⟩ = some (.int .i64 hh) ∧ w'.cell? ⟨q7, 7, none⟩ = some (.slice (some ⟨b2, 0, none⟩) (many n) c2)) (ds := [7, 10]) #[false, false, false, false, false, false, false, false, false, false, false] (by kernel_rfl) rfl rfl hS2 (fun hHeld => ?_)
  refine pure_ (i := 0) (N := some 129) (v := ?_) (a' := ?_) #[true, false, false, false, false, false, false, false, false, false, false] rfl rfl (by kernel_rfl) (fun _ _ _ h => h) (Or.inl ⟨by rfl, ?_⟩) ?_ ?_
  rotate_left
  · intro w'
    go_simp
    with_reducible rfl
  rotate_left
  · simp only [Act.put, List.setIfInBounds_toArray, List.set_cons_zero, List.set_cons_succ, i64_w, i32_w]
    rfl
  refine pure_ (i := 1) (N := some 130) (v := ?_) (a' := ?_) #[true, true, false, false, false, false, false, false, false, false, false] rfl rfl (by kernel_rfl) (fun _ _ _ h => h) (Or.inl ⟨by rfl, ?_⟩) ?_ ?_
  rotate_left
  · intro w'
    go_simp
    with_reducible rfl
  rotate_left
  · simp only [Act.put, List.setIfInBounds_toArray, List.set_cons_zero, List.set_cons_succ, i64_w, i32_w]
    rfl
  refine pure_ (i := 2) (N := some 131) (v := ?_) (a' := ?_) #[true, true, true, false, false, false, false, false, false, false, false] rfl rfl (by kernel_rfl) (fun _ _ _ h => h) (Or.inl ⟨by rfl, ?_⟩) ?_ ?_
  rotate_left
  · intro w'
    go_simp
    with_reducible rfl
  rotate_left
  · simp only [Act.put, List.setIfInBounds_toArray, List.set_cons_zero, List.set_cons_succ, i64_w, i32_w]
    rfl
  refine pure_ (i := 3) (N := some 132) (v := ?_) (a' := ?_) #[true, true, true, true, false, false, false, false, false, false, false] rfl rfl (by kernel_rfl) (fun _ _ _ h => h) (Or.inl ⟨by rfl, ?_⟩) ?_ ?_
  rotate_left
  · intro w'
    go_simp
    with_reducible rfl
  rotate_left
  · simp only [Act.put, List.setIfInBounds_toArray, List.set_cons_zero, List.set_cons_succ, i64_w, i32_w]
    rfl
  refine take_ (i := 4) (N := some 133) (v := ?_) (a' := ?_) #[true, true, true, true, true, false, false, false, false, false, false] rfl rfl (by kernel_rfl) (fun _ _ _ h => h) (Or.inl ⟨by rfl, ?_⟩) hHeld ?_ ?_
  rotate_left
  · intro w' s0
    obtain ⟨q1, q2, q3, q4, q5, q6, q7x, q8, q9⟩ := s0
    go_simp
    with_reducible rfl
  rotate_left
  · simp only [Act.put, List.setIfInBounds_toArray, List.set_cons_zero, List.set_cons_succ, i64_w, i32_w]
    rfl
  refine take_ (i := 5) (N := some 134) (v := ?_) (a' := ?_) #[true, true, true, true, true, true, false, false, false, false, false] rfl rfl (by kernel_rfl) (fun _ _ _ h => h) (Or.inl ⟨by rfl, ?_⟩) hHeld ?_ ?_
  rotate_left
  · intro w' s0
    obtain ⟨q1, q2, q3, q4, q5, q6, q7x, q8, q9⟩ := s0
    go_simp
    with_reducible rfl
  rotate_left
  · simp only [Act.put, List.setIfInBounds_toArray, List.set_cons_zero, List.set_cons_succ, i64_w, i32_w]
    rfl
  refine one_ (i := 6) (N := some 135) #[true, true, true, true, true, true, true, false, false, false, false] rfl rfl (by kernel_rfl) (by decide) (fun K hK => ?_)
  refine value_ (v := .slice (some ⟨w8.drew.heap.size, 0, none⟩) 1 1) (w1 := w8.drew.alloc (.cells #[.int .i64 ((i : Int) + 1), .string name, .int .u32 1, .int .i64 (n : Int), .int .u32 (sumS data), .int .i64 d0, .int .i64 hh, .slice (some ⟨b2, 0, none⟩) (many n) c2] 107)) (by rfl) rfl (by go_simp) ?_
  refine hK.out _ _ ⟨cellOf (ba _) hHeld.1, cellOf (ba _) hHeld.2.1, cellOf (ba _) hHeld.2.2.1, cellOf (ba _) hHeld.2.2.2.1, cellOf (ba _) hHeld.2.2.2.2.1, cellOf (ba _) hHeld.2.2.2.2.2.1, cellOf (ba _) hHeld.2.2.2.2.2.2.1, cellOf (ba _) hHeld.2.2.2.2.2.2.2.1, cellOf (ba _) hHeld.2.2.2.2.2.2.2.2⟩ (fun hHeld => ?_)
  clear hK K
  refine norm_ (a' := ?_) ?_ ?_
  rotate_left
  · show Act.put _ (some 135) _ = _
    simp only [Act.put, List.setIfInBounds_toArray, List.set_cons_zero, List.set_cons_succ, i64_w, i32_w]
    rfl
  refine last_ (i := 7) (N := some 136) #[true, true, true, true, true, true, true, true, false, false, false] rfl rfl (by kernel_rfl) (by decide) (fun K hK => ?_)
  refine Kd.R_append_step enK (w0 := w8.drew) 0 (by rfl) (.tmp 133) (.tmp 135) 100 107 (.agg #[.int .i64 0, .string ⟨#[]⟩, .int .u32 0, .int .i64 0, .int .u32 0, .int .i64 0, .int .i64 0, .slice none 0 0]) 88 rfl Tryz.underlying100 info107 rfl (by decide) (by decide) (Sl.mk zA2 zn2 zc2).enc ps2 (EP.mk ⟨⟨(i : Int) + 1, name, 1, (n : Int), sumS data, d0⟩, hh, ds⟩ ⟨(some ⟨b2, 0, none⟩), (many n), c2⟩) [.int .i64 ((i : Int) + 1), .string name, .int .u32 1, .int .i64 (n : Int), .int .u32 (sumS data), .int .i64 d0, .int .i64 hh, .slice (some ⟨b2, 0, none⟩) (many n) c2] (fun k => tagged w8.drew o8 (t + 12 + i) k = t + 12 + i) (fun _ => False) rfl rfl rfl (fun _ hk => hk.elim) (fun q hq => tagged_new (show w8.drew.heap.size ≤ q from hq)) (Ow.alloc (w := w8.drew) HZ2.out (Below.refl _ _)) (Below.refl 0 _) (Nat.zero_le _) (by omega) ?_
  intro v3 wa ho hb hg3 hat
  obtain ⟨s3, rfl, ho', hk'⟩ := Ow.pushed (w := w8.drew) HZ2.out (Below.refl _ _) ho hg3
  clear ho hb hg3 hat
  refine hK.out _ _ ?_
  clear hK K
  refine norm_ (a' := ?_) ?_ ?_
  rotate_left
  · show Act.put _ (some 136) _ = _
    simp only [Act.put, List.setIfInBounds_toArray, List.set_cons_zero, List.set_cons_succ, i64_w, i32_w]
    rfl
  refine pure_ (i := 8) (N := some 137) (v := ?_) (a' := ?_) #[true, true, true, true, true, true, true, true, true, false, false] rfl rfl (by kernel_rfl) (fun _ _ _ h => h) (Or.inl ⟨by rfl, ?_⟩) ?_ ?_
  rotate_left
  · intro w'
    go_simp
    with_reducible rfl
  rotate_left
  · simp only [Act.put, List.setIfInBounds_toArray, List.set_cons_zero, List.set_cons_succ, i64_w, i32_w]
    rfl
  refine pure_ (i := 9) (N := some 138) (v := ?_) (a' := ?_) #[true, true, true, true, true, true, true, true, true, true, false] rfl rfl (by kernel_rfl) (fun _ _ _ h => h) (Or.inl ⟨by rfl, ?_⟩) ?_ ?_
  rotate_left
  · intro w'
    go_simp
    with_reducible rfl
  rotate_left
  · simp only [Act.put, List.setIfInBounds_toArray, List.set_cons_zero, List.set_cons_succ, i64_w, i32_w]
    rfl
  refine last_ (i := 10) (N := none) #[true, true, true, true, true, true, true, true, true, true, true] rfl rfl (by kernel_rfl) (by decide) (fun K hK => ?_)
  have hbz := Blk.keep (w := w8.drew) HB2.out hk' (by rw [HG2.out]; omega)
  have c3 := Blk.cell (i := 4) hbz.1 rfl
  have z3 := Blk.frozen (i := 4) hbz.1
  refine skip_ (w1 := wa.setCell ⟨ga i, 4, none⟩ s3.enc) (by rfl) rfl (by simp only [Sl.enc]; go_simp) ?_
  refine hK.out _ _ ?_
  clear hK K
  refine done_ (by kernel_rfl) ?_
  have HEE := Lib.hid (entry_endD (S := (SV.setB S lb)) (x := (EP.mk ⟨⟨(i : Int) + 1, name, 1, (n : Int), sumS data, d0⟩, hh, ds⟩ ⟨(some ⟨b2, 0, none⟩), (many n), c2⟩)) HMC.out ht i hi HG2.out HB2.out HES.out HR8.out ho' hk')
  clear ho' hk' hbz c3 z3 hHeld hS2
  have HDN := Lib.hid (done_nil _ _ t g gs ga _ HEE.out.1 ht hdd)
  go_wp2_with (go_at_call 58; refine HDN.out.mono ?_; rintro e wb ⟨rfl, ob, d1, d2⟩)
  go_ret
  rw [HX.out]
  exact ⟨rfl, hokb, hnb, ob, d1, (((HK37.out.mono (fun _ h => h.elim)).trans HKC.out).trans HEE.out.2).trans d2⟩
end Go.Proofs.YtmofiicjaldmiaaGreatDoor.SwD
namespace Go.Proofs.YtmofiicjaldmiaaGreatDoor.SwE
open Go.RowKit Go.Shelf Go.Proofs.YtmofiicjaldmiaaGreatDoorW.PrintWords Go.Proofs.YtmofiicjaldmiaaGreatDoorW.PrintLast Go.Proofs.YtmofiicjaldmiaaGreatDoor.SvA Go.Proofs.YtmofiicjaldmiaaGreatDoor.SvB Go.Proofs.YtmofiicjaldmiaaGreatDoor.SvC Go.Proofs.YtmofiicjaldmiaaGreatDoor.SvD Go.Proofs.YtmofiicjaldmiaaGreatDoor.SvE Go.Proofs.YtmofiicjaldmiaaGreatDoor.SvF Go.Proofs.YtmofiicjaldmiaaGreatDoor.SvG Go.Proofs.YtmofiicjaldmiaaGreatDoor.SvH Go.Proofs.YtmofiicjaldmiaaGreatDoor.SvI Go.Proofs.YtmofiicjaldmiaaGreatDoor.SvJ Go.Proofs.YtmofiicjaldmiaaGreatDoor.SvK Go.Proofs.YtmofiicjaldmiaaGreatDoor.SvL Go.Proofs.YtmofiicjaldmiaaGreatDoor.SvM Go.Proofs.YtmofiicjaldmiaaGreatDoor.SvN Go.Proofs.YtmofiicjaldmiaaGreatDoor.SvO Go.Proofs.YtmofiicjaldmiaaGreatDoor.SvP Go.Proofs.YtmofiicjaldmiaaGreatDoor.SvQ Go.Proofs.YtmofiicjaldmiaaGreatDoor.SvR Go.Proofs.YtmofiicjaldmiaaGreatDoor.SvS Go.Proofs.YtmofiicjaldmiaaGreatDoor.SvT Go.Proofs.YtmofiicjaldmiaaGreatDoor.SvU Go.Proofs.YtmofiicjaldmiaaGreatDoor.SvV Go.Proofs.YtmofiicjaldmiaaGreatDoor.SvW Go.Proofs.YtmofiicjaldmiaaGreatDoor.SvX Go.Proofs.YtmofiicjaldmiaaGreatDoor.SvY Go.Proofs.YtmofiicjaldmiaaGreatDoor.SvZ Go.Proofs.YtmofiicjaldmiaaGreatDoor.SwA
set_option linter.unusedVariables false
set_option linter.unusedSimpArgs false
set_option maxRecDepth 100000 in
set_option maxHeartbeats 4000000 in
theorem put_pos_0 (w : World) (own : Nat → Nat) (t g gs : Nat) (ga : Nat → Nat) (S : SV) (H : SvMem w own t g gs ga S) (ht : t ≠ 0) (i : Nat) (hi : i < 8) (hS : BOk S.b) (hA : AOk S i) (name : ByteArray) (hs : name.size < 2 ^ 62) (hn16 : name.size ≤ 16) (hd : S.dead = false) (hok : nameOk name = true) (A : Option Addr) (c td : Nat) (data : List Int) (hda : Rd u8K w own td ⟨A, 0, c⟩ data) (htd : ¬ k3 t td) (hu : u8s data) (hn : 0 ≤ 131072) (k : Nat) (hf : findI (fun e => e.hd.name == name) (S.ar i).ents = k) (e0 : EN) (he : (S.ar i).ents[k]? = some e0) (hv : e0.hd.ver < 4294967295) (hroom : freeH (S.ar i) ≠ [] ∧ (freeD (S.ar i) (many 0)).length = many 0) (hlim : S.b.lim = false) (hpe : S.b.pend = []) :
    Calls Tryz.prog 23 #[pt g, .int .i64 ((i : Int) + 1), .string name, .slice A 0 c] w (ActP w own t g gs ga S.b.n (putS S i (some (k, e0)) name data)) := by
  have hcn := named_yes w own t g gs ga S H i hi name hs hd hok (by have := hA.el; omega)
  rw [hf] at hcn
  have HH := Lib.hid H
  obtain ⟨z, ps, hg, hb, hz, hes⟩ := H.ar i hi
  have hpl : ps.length = (S.ar i).ents.length := by rw [← hes.1, List.length_map]
  have hkl : k < ps.length := by rw [hpl]; exact (List.getElem?_eq_some_iff.1 he).1
  obtain ⟨x0, hx⟩ : ∃ x, ps[k]? = some x := ⟨_, List.getElem?_eq_getElem hkl⟩
  have hxe : x0.en = e0 := by
    have h1 : (ps.map (·.en))[k]? = some x0.en := by rw [List.getElem?_map, hx]; rfl
    rw [hes.1, he] at h1
    injection h1 with h1
    exact h1.symm
  subst hxe
  obtain ⟨gb, hgb⟩ := ow_head hz (by rw [← (ow_len hz).1]; omega)
  obtain ⟨zA, zn, zc⟩ := z
  injection hgb with hgb _ _
  subst hgb
  have hkn0 : ps.length = zn := (ow_len hz).1
  have hkn : (k : Int) < (zn : Int) := by omega
  have hk0 : (0 : Int) ≤ (k : Int) := by omega
  have hk40 : k < 2 ^ 30 := by have := hA.el; omega
  have HE := Lib.hid (fun (W : World) (h : Below w.heap.size w W) => stS (hb.below h) (hz.keep (Kp.below (ts := fun _ => False) h 0) (fun q => q)) hx)
  have HEO := Lib.hid (hA.eo x0.en (List.mem_of_getElem? he))
  have HGE := Lib.hid he
  clear hb hz hes hx hg hpl hkl hf he hkn0
  obtain ⟨⟨⟨x1, x2, x3, x4, x5, x6⟩, x7, xs⟩, ⟨x8, x9, x10⟩⟩ := x0
  dsimp only at *
  have hx3 : 0 ≤ x3 := HEO.out.1.v0.1
  have hve : (x3 == 4294967295) = false := beq_eq_false_iff_ne.2 (by omega)
  have hrk : decide ((k : Int) ≥ 0) = true := by simp
  have HC := Lib.hid hcn
  have HFH := Lib.hid (fun (W : World) (h : Below w.heap.size w W) => heads_ok W _ _ _ _ _ ((HH.out.below h).ar i hi) (by have := hA.el; omega) (by have := hA.s16; have := hA.hs; omega))
  have HFD := Lib.hid (fun (W : World) (h : Below w.heap.size w W) => data_ok W _ _ _ _ _ ((HH.out.below h).ar i hi) (by have := hA.el; omega) (by have := hA.s16; have := hA.hs; omega) (by have := hA.s16; omega) (fun e he => by have := (hA.eo e he).2.2.2; omega) (many 0) (by unfold many; omega))
  have HAR := Lib.hid (fun (W : World) (h : Below w.heap.size w W) => ar_c1 ((HH.out.below h).ar i hi))
  have HDA := Lib.hid hda
  have HDL0 := Lib.hid (show data.length = 0 from hda.1.1)
  have hnc : 0 ≤ c := hda.2.1
  have HHA := Lib.hid hA
  clear hcn H hok hda hA
  go_enter Tryz.func23, Tryz.ntmps23
  go_upto_region 7 with (first | (go_at_call 50; refine HC.out.mono ?_; rintro e w1 ⟨rfl, hb1⟩; have q3 := (HAR.out w1 hb1).2.2.2) | (go_at_call 51; refine Calls.mono (HFH.out w1 hb1) ?_; rintro e w2 ⟨⟨A1, n1, c1⟩, rfl, hN1⟩; unfold Sl.enc; dsimp only))
  have hb2 : Below w.heap.size w w2 := hb1.trans (hN1.below.mono hb1.size)
  have HN1 := Lib.hid hN1
  clear hN1 q3
  have hS0 : w2.cell? ⟨ga i, 2, none⟩ = some (.int .i64 ((S.ar i).sec : Int)) ∧ w2.cell? ⟨ga i, 3, none⟩ = some (.int .i64 ((S.ar i).heads : Int)) := ⟨(HAR.out w2 hb2).2.2.1, (HAR.out w2 hb2).2.2.2⟩
  refine start_ (n := 14) (S := fun w' => w'.cell? ⟨ga i, 2, none⟩ = some (.int .i64 ((S.ar i).sec : Int)) ∧ w'.cell? ⟨ga i, 3, none⟩ = some (.int .i64 ((S.ar i).heads : Int))) (ds := []) #[false, false, false, false, false, false, false, false, false, false, false, false, false, false] (by kernel_rfl) rfl rfl hS0 (fun hHeld => ?_)
  refine pure_ (i := 0) (N := some 38) (v := ?_) (a' := ?_) #[true, false, false, false, false, false, false, false, false, false, false, false, false, false] rfl rfl (by kernel_rfl) (fun _ _ _ h => h) (Or.inl ⟨by rfl, ?_⟩) ?_ ?_
  rotate_left
  · intro w'
    go_simp
    with_reducible rfl
  rotate_left
  · simp only [Act.put, List.setIfInBounds_toArray, List.set_cons_zero, List.set_cons_succ, i64_w, i32_w]
    rfl
  refine pure_ (i := 1) (N := some 39) (v := ?_) (a' := ?_) #[true, true, false, false, false, false, false, false, false, false, false, false, false, false] rfl rfl (by kernel_rfl) (fun _ _ _ h => h) (Or.inl ⟨by rfl, ?_⟩) ?_ ?_
  rotate_left
  · intro w'
    go_simp
    with_reducible rfl
  rotate_left
  · simp only [Act.put, List.setIfInBounds_toArray, List.set_cons_zero, List.set_cons_succ, i64_w, i32_w]
    rfl
  refine pure_ (i := 2) (N := some 40) (v := ?_) (a' := ?_) #[true, true, true, false, false, false, false, false, false, false, false, false, false, false] rfl rfl (by kernel_rfl) (fun _ _ _ h => h) (Or.inl ⟨by rfl, ?_⟩) ?_ ?_
  rotate_left
  · intro w'
    go_simp
    with_reducible rfl
  rotate_left
  · simp only [Act.put, List.setIfInBounds_toArray, List.set_cons_zero, List.set_cons_succ, i64_w, i32_w]
    rfl
  refine pure_ (i := 3) (N := some 41) (v := ?_) (a' := ?_) #[true, true, true, true, false, false, false, false, false, false, false, false, false, false] rfl rfl (by kernel_rfl) (fun _ _ _ h => h) (Or.inl ⟨by rfl, ?_⟩) ?_ ?_
  rotate_left
  · intro w'
    go_simp
    with_reducible rfl
  rotate_left
  · simp only [Act.put, List.setIfInBounds_toArray, List.set_cons_zero, List.set_cons_succ, i64_w, i32_w]
    rfl
  refine take_ (i := 4) (N := some 42) (v := ?_) (a' := ?_) #[true, true, true, true, true, false, false, false, false, false, false, false, false, false] rfl rfl (by kernel_rfl) (fun _ _ _ h => h) (Or.inl ⟨by rfl, ?_⟩) hHeld ?_ ?_
  rotate_left
  · intro w' s0
    obtain ⟨q1, q2⟩ := s0
    go_simp
    with_reducible rfl
  rotate_left
  · simp only [Act.put, List.setIfInBounds_toArray, List.set_cons_zero, List.set_cons_succ, i64_w, i32_w]
    rfl
  refine pure_ (i := 5) (N := some 43) (v := ?_) (a' := ?_) #[true, true, true, true, true, true, false, false, false, false, false, false, false, false] rfl rfl (by kernel_rfl) (fun _ _ _ h => h) (Or.inl ⟨by rfl, ?_⟩) ?_ ?_
  rotate_left
  · intro w'
    go_simp
    with_reducible rfl
  rotate_left
  · simp only [Act.put, List.setIfInBounds_toArray, List.set_cons_zero, List.set_cons_succ, i64_w, i32_w]
    rfl
  refine pure_ (i := 6) (N := some 44) (v := ?_) (a' := ?_) #[true, true, true, true, true, true, true, false, false, false, false, false, false, false] rfl rfl (by kernel_rfl) (fun _ _ _ h => h) (Or.inl ⟨by rfl, ?_⟩) ?_ ?_
  rotate_left
  · intro w'
    go_simp
    with_reducible rfl
  rotate_left
  · simp only [Act.put, List.setIfInBounds_toArray, List.set_cons_zero, List.set_cons_succ, i64_w, i32_w]
    rfl
  refine pure_ (i := 7) (N := some 45) (v := ?_) (a' := ?_) #[true, true, true, true, true, true, true, true, false, false, false, false, false, false] rfl rfl (by kernel_rfl) (fun _ _ _ h => h) (Or.inl ⟨by rfl, ?_⟩) ?_ ?_
  rotate_left
  · intro w'
    go_simp
    with_reducible rfl
  rotate_left
  · simp only [Act.put, List.setIfInBounds_toArray, List.set_cons_zero, List.set_cons_succ, i64_w, i32_w]
    rfl
  refine take_ (i := 8) (N := some 46) (v := ?_) (a' := ?_) #[true, true, true, true, true, true, true, true, true, false, false, false, false, false] rfl rfl (by kernel_rfl) (fun _ _ _ h => h) (Or.inl ⟨by rfl, ?_⟩) hHeld ?_ ?_
  rotate_left
  · intro w' s0
    obtain ⟨q1, q2⟩ := s0
    go_simp
    with_reducible rfl
  rotate_left
  · simp only [Act.put, List.setIfInBounds_toArray, List.set_cons_zero, List.set_cons_succ, i64_w, i32_w]
    rfl
  refine pure_ (i := 9) (N := some 47) (v := ?_) (a' := ?_) #[true, true, true, true, true, true, true, true, true, true, false, false, false, false] rfl rfl (by kernel_rfl) (fun _ _ _ h => h) (Or.inl ⟨by rfl, ?_⟩) ?_ ?_
  rotate_left
  · intro w'
    go_simp
    with_reducible rfl
  rotate_left
  · simp only [Act.put, List.setIfInBounds_toArray, List.set_cons_zero, List.set_cons_succ, i64_w, i32_w]
    rfl
  refine pure_ (i := 10) (N := some 48) (v := ?_) (a' := ?_) #[true, true, true, true, true, true, true, true, true, true, true, false, false, false] rfl rfl (by kernel_rfl) (fun _ _ _ h => h) (Or.inl ⟨by rfl, ?_⟩) ?_ ?_
  rotate_left
  · intro w'
    go_simp
    with_reducible rfl
  rotate_left
  · simp only [Act.put, List.setIfInBounds_toArray, List.set_cons_zero, List.set_cons_succ, i64_w, i32_w]
    rfl
  refine one_ (i := 11) (N := some 49) #[true, true, true, true, true, true, true, true, true, true, true, true, false, false] rfl rfl (by kernel_rfl) (by decide) (fun K hK => ?_)
  refine goes_ Tryz.func53 (by kernel_rfl) rfl #[.int .i64 (0 : Int)] (by first | rfl | (simp [Act.eval]; done)) rfl rfl (by first | rfl | (simp [Act.eval]; done)) ?_
  refine Calls.mono (many_ok _ 0 (by omega)) ?_
  rintro e w' ⟨rfl, rfl⟩
  refine ⟨_, rfl, ?_⟩
  refine hK.out _ _ hHeld (fun hHeld => ?_)
  clear hK K
  refine norm_ (a' := ?_) ?_ ?_
  rotate_left
  · show Act.put _ (some 49) _ = _
    simp only [Act.put, List.setIfInBounds_toArray, List.set_cons_zero, List.set_cons_succ, i64_w, i32_w]
    rfl
  refine one_ (i := 12) (N := some 50) #[true, true, true, true, true, true, true, true, true, true, true, true, true, false] rfl rfl (by kernel_rfl) (by decide) (fun K hK => ?_)
  refine goes_ Tryz.func51 (by kernel_rfl) rfl #[pt (ga i), .int .i64 ((S.ar i).heads : Int), .int .i64 ((S.ar i).sec : Int), .int .i64 (many 0 : Int), .func (.func 54) #[] #[]] (by first | rfl | (simp [Act.eval]; done)) rfl rfl (by first | rfl | (simp [Act.eval]; done)) ?_
  refine Calls.mono (HFD.out w2.drew hb2.drew) ?_
  rintro e w3 ⟨⟨A2, n2, c2⟩, rfl, hN2⟩
  unfold Sl.enc; dsimp only
  refine ⟨_, rfl, ?_⟩
  refine hK.out _ _ ⟨cellOf hN2.below hHeld.1, cellOf hN2.below hHeld.2⟩ (fun hHeld => ?_)
  clear hK K
  refine norm_ (a' := ?_) ?_ ?_
  rotate_left
  · show Act.put _ (some 50) _ = _
    simp only [Act.put, List.setIfInBounds_toArray, List.set_cons_zero, List.set_cons_succ, i64_w, i32_w]
    rfl
  refine pure_ (i := 13) (N := some 13) (v := ?_) (a' := ?_) #[true, true, true, true, true, true, true, true, true, true, true, true, true, true] rfl rfl (by kernel_rfl) (fun _ _ _ h => h) (Or.inl ⟨by rfl, ?_⟩) ?_ ?_
  rotate_left
  · intro w'
    go_simp
    with_reducible rfl
  rotate_left
  · simp only [Act.put, List.setIfInBounds_toArray, List.set_cons_zero, List.set_cons_succ, i64_w, i32_w]
    rfl
  refine done_ (by kernel_rfl) ?_
  have hb3 : Below w.heap.size w w3 := hb2.drew.trans (hN2.below.mono hb2.size)
  have HN2 := Lib.hid hN2
  clear hHeld hN2 hS0
  obtain ⟨q0, q1, q2, q3, q4, q5, q6, q7⟩ := HE.out w3 hb3; dsimp only at q0 q1 q2 q3 q4 q5 q6 q7
  go_upto_region 9 with (fail)
  obtain ⟨hh, hfh⟩ : ∃ hh, freeH (S.ar i) = [hh] := by
    have := freeH_len (S.ar i)
    rcases hfl : freeH (S.ar i) with _ | ⟨x, _ | ⟨y, l⟩⟩
    · exact absurd hfl hroom.1
    · exact ⟨x, rfl⟩
    · rw [hfl] at this; simp at this
  rw [hfh] at HN1
  obtain rfl : n1 = 1 := HN1.out.len
  obtain ⟨b1, hA1, hb1l⟩ := HN1.out.hd Nat.one_pos
  dsimp only at hA1
  subst hA1
  have hhm : 0 ≤ hh ∧ hh < ((S.ar i).heads : Int) := by have := freeH_mem (show hh ∈ freeH (S.ar i) by rw [hfh]; exact List.mem_singleton.2 rfl); exact ⟨this.1, this.2.1⟩
  generalize hds : freeD (S.ar i) (many 0) = ds at *
  have hdm : ∀ x ∈ ds, ((S.ar i).heads : Int) ≤ x ∧ x < ((S.ar i).sec : Int) := fun x hx => by rw [← hds] at hx; have := freeD_mem hx; exact ⟨this.1, this.2.1⟩
  have hdsl : ds.length = many 0 := hroom.2
  have hn2 : n2 = many 0 := HN2.out.len.trans hdsl
  have hm0 : many 0 = 0 := rfl
  rw [hm0] at hn2
  subst hn2
  have HDS0 := Lib.hid (show ds = [] from List.length_eq_zero_iff.1 (hdsl.trans hm0))
  have ed : decide ((0 : Int) < ((many 0 : Nat) : Int)) = false := by rw [hm0]; decide
  have HDM := Lib.hid hdm
  have HHM := Lib.hid hhm
  have HDS := Lib.hid hds
  have HFH' := Lib.hid hfh
  have HDSL := Lib.hid hdsl
  have HRM := Lib.hid hroom
  have HDL := HDL0
  clear hdm hhm hds hfh hdsl hroom
  have HSUM := Lib.hid (sum_ok w3 A 0 c data (BytesAt.below (B := 0) (A := A) (n := 0) HDA.out.1 hb3) hu (by omega) hnc)
  go_upto_region 12 with (first | (go_at_call 53; refine (many_ok _ 0 (by omega)).mono ?_; rintro e w' ⟨rfl, rfl⟩) | (go_at_call 55; refine HSUM.out.mono ?_; rintro e w' ⟨rfl, rfl⟩))
  have HB0 := Lib.hid (hb3.alloc hb3.size (Obj.cells #[.int .i64 ((i : Int) + 1), .string name, .int .u32 1, .int .i64 (0 : Int), .int .u32 (sumS data), .int .i64 0] 105))
  have hB4 : Blk (w3.alloc (Obj.cells #[.int .i64 ((i : Int) + 1), .string name, .int .u32 1, .int .i64 (0 : Int), .int .u32 (sumS data), .int .i64 0] 105)) w3.heap.size #[.int .i64 ((i : Int) + 1), .string name, .int .u32 1, .int .i64 (0 : Int), .int .u32 (sumS data), .int .i64 0] 105 := blkNew rfl
  have hbA := ba (w := w3) (Obj.cells #[.int .i64 ((i : Int) + 1), .string name, .int .u32 1, .int .i64 (0 : Int), .int .u32 (sumS data), .int .i64 0] 105)
  have hz4 : (w3.alloc (Obj.cells #[.int .i64 ((i : Int) + 1), .string name, .int .u32 1, .int .i64 (0 : Int), .int .u32 (sumS data), .int .i64 0] 105)).heap.size = w3.heap.size + 1 := by simp
  generalize w3.alloc (Obj.cells #[.int .i64 ((i : Int) + 1), .string name, .int .u32 1, .int .i64 (0 : Int), .int .u32 (sumS data), .int .i64 0] 105) = W4 at *
  have hpw : w.heap.size ≤ w3.heap.size := hb3.size
  obtain ⟨q0, q1, q2, q3, q4, q5, q6, q7⟩ := HE.out W4 HB0.out
  dsimp only at q0 q1 q2 q3 q4 q5 q6 q7
  have c2 : W4.cell? ⟨w3.heap.size, 2, none⟩ = some (.int .u32 1) := Blk.cell (i := 2) hB4 rfl
  have z2 : W4.frozen? ⟨w3.heap.size, 2, none⟩ = false := Blk.frozen hB4
  have hx31 : x3 < 4294967295 := hv
  go_upto_region 14 with (fail)
  have hB5 := Blk.set (i := 2) hB4 (.int .u32 (x3 + 1))
  have hb5 : Below w3.heap.size w3 (W4.setCell ⟨w3.heap.size, 2, none⟩ (.int .u32 (x3 + 1))) := hbA.setCell (p := ⟨w3.heap.size, 2, none⟩) (Nat.le_refl _) _
  have hz5 : (W4.setCell ⟨w3.heap.size, 2, none⟩ (.int .u32 (x3 + 1))).heap.size = w3.heap.size + 1 := by rw [World.size_setCell]; exact hz4
  generalize W4.setCell ⟨w3.heap.size, 2, none⟩ (.int .u32 (x3 + 1)) = W5 at *
  clear c2 z2 q0 q1 q2 q3 q4 q5 q6 q7 hB4 hbA hz4
  go_upto_region 16 with (fail)
  have hB6 := hB5
  have hb6 := hb5
  have hz6 := hz5
  clear hB5 hb5 hz5
  have ch : W5.cell? ⟨b1, 0, none⟩ = some (.int .i64 hh) := cellOf hb6 (cellOf HN2.out.below (HN1.out.cell 0 hh rfl))
  try simp at hB6
  have hS1 : W5.cell? ⟨w3.heap.size, 0, none⟩ = some (.int .i64 ((i : Int) + 1)) ∧ W5.cell? ⟨w3.heap.size, 1, none⟩ = some (.string name) ∧ W5.cell? ⟨w3.heap.size, 2, none⟩ = some (.int .u32 (x3 + 1)) ∧ W5.cell? ⟨w3.heap.size, 3, none⟩ = some (.int .i64 (0 : Int)) ∧ W5.cell? ⟨w3.heap.size, 4, none⟩ = some (.int .u32 (sumS data)) ∧ W5.cell? ⟨w3.heap.size, 5, none⟩ = some (.int .i64 0) ∧ W5.cell? ⟨b1, 0, none⟩ = some (.int .i64 hh) :=
    ⟨Blk.cell (i := 0) hB6 rfl, Blk.cell (i := 1) hB6 rfl, Blk.cell (i := 2) hB6 rfl, Blk.cell (i := 3) hB6 rfl, Blk.cell (i := 4) hB6 rfl, Blk.cell (i := 5) hB6 rfl, ch⟩
  clear ch
  refine start_ (n := 8) (S := fun w' => w'.cell? ⟨w3.heap.size, 0, none⟩ = some (.int .i64 ((i : Int) + 1)) ∧ w'.cell? ⟨w3.heap.size, 1, none⟩ = some (.string name) ∧ w'.cell? ⟨w3.heap.size, 2, none⟩ = some (.int .u32 (x3 + 1)) ∧ w'.cell? ⟨w3.heap.size, 3, none⟩ = some (.int .i64 (0 : Int)) ∧ w'.cell? ⟨w3.heap.size, 4, none⟩ = some (.int .u32 (sumS data)) ∧ w'.cell? ⟨w3.heap.size, 5, none⟩ = some (.int .i64 0) ∧ w'.cell? ⟨b1, 0, none⟩ = some (.int .i64 hh)) (ds := []) #[false, false, false, false, false, false, false, false] (by kernel_rfl) rfl rfl hS1 (fun hHeld => ?_)
  refine take_ (i := 0) (N := some 106) (v := ?_) (a' := ?_) #[true, false, false, false, false, false, false, false] rfl rfl (by kernel_rfl) (fun _ _ _ h => h) (Or.inl ⟨by rfl, ?_⟩) hHeld ?_ ?_
  rotate_left
  · intro w' s0
    obtain ⟨q1, q2, q3, q4, q5, q6, q7⟩ := s0
    go_simp
    with_reducible rfl
  rotate_left
  · simp only [Act.put, List.setIfInBounds_toArray, List.set_cons_zero, List.set_cons_succ, i64_w, i32_w]
    rfl
  refine pure_ (i := 1) (N := some 107) (v := ?_) (a' := ?_) #[true, true, false, false, false, false, false, false] rfl rfl (by kernel_rfl) (fun _ _ _ h => h) (Or.inl ⟨by rfl, ?_⟩) ?_ ?_
  rotate_left
  · intro w'
    go_simp
    with_reducible rfl
  rotate_left
  · simp only [Act.put, List.setIfInBounds_toArray, List.set_cons_zero, List.set_cons_succ, i64_w, i32_w]
    rfl
  refine pure_ (i := 2) (N := some 108) (v := ?_) (a' := ?_) #[true, true, true, false, false, false, false, false] rfl rfl (by kernel_rfl) (fun _ _ _ h => h) (Or.inl ⟨by rfl, ?_⟩) ?_ ?_
  rotate_left
  · intro w'
    go_simp
    with_reducible rfl
  rotate_left
  · simp only [Act.put, List.setIfInBounds_toArray, List.set_cons_zero, List.set_cons_succ, i64_w, i32_w]
    rfl
  refine take_ (i := 3) (N := some 109) (v := ?_) (a' := ?_) #[true, true, true, true, false, false, false, false] rfl rfl (by kernel_rfl) (fun _ _ _ h => h) (Or.inl ⟨by rfl, ?_⟩) hHeld ?_ ?_
  rotate_left
  · intro w' s0
    obtain ⟨q1, q2, q3, q4, q5, q6, q7⟩ := s0
    go_simp
    with_reducible rfl
  rotate_left
  · simp only [Act.put, List.setIfInBounds_toArray, List.set_cons_zero, List.set_cons_succ, i64_w, i32_w]
    rfl
  refine pure_ (i := 4) (N := some 110) (v := ?_) (a' := ?_) #[true, true, true, true, true, false, false, false] rfl rfl (by kernel_rfl) (fun _ _ _ h => h) (Or.inl ⟨by rfl, ?_⟩) ?_ ?_
  rotate_left
  · intro w'
    go_simp
    with_reducible rfl
  rotate_left
  · simp only [Act.put, List.setIfInBounds_toArray, List.set_cons_zero, List.set_cons_succ, i64_w, i32_w]
    rfl
  refine pure_ (i := 5) (N := some 111) (v := ?_) (a' := ?_) #[true, true, true, true, true, true, false, false] rfl rfl (by kernel_rfl) (fun _ _ _ h => h) (Or.inl ⟨by rfl, ?_⟩) ?_ ?_
  rotate_left
  · intro w'
    go_simp
    with_reducible rfl
  rotate_left
  · simp only [Act.put, List.setIfInBounds_toArray, List.set_cons_zero, List.set_cons_succ, i64_w, i32_w]
    rfl
  refine one_ (i := 6) (N := some 16) #[true, true, true, true, true, true, true, false] rfl rfl (by kernel_rfl) (by decide) (fun K hK => ?_)
  refine value_ (v := pt W5.drew.heap.size) (w1 := W5.drew.alloc (.cells #[.int .i64 0, .string ⟨#[]⟩, .int .u32 0, .int .i64 0, .int .u32 0, .int .i64 0, .int .i64 0, .slice none 0 0] 107)) (by rfl) rfl (by go_simp) ?_
  refine hK.out _ _ ⟨cellOf (ba _) hHeld.1, cellOf (ba _) hHeld.2.1, cellOf (ba _) hHeld.2.2.1, cellOf (ba _) hHeld.2.2.2.1, cellOf (ba _) hHeld.2.2.2.2.1, cellOf (ba _) hHeld.2.2.2.2.2.1, cellOf (ba _) hHeld.2.2.2.2.2.2⟩ (fun hHeld => ?_)
  clear hK K
  refine norm_ (a' := ?_) ?_ ?_
  rotate_left
  · show Act.put _ (some 16) _ = _
    simp only [Act.put, List.setIfInBounds_toArray, List.set_cons_zero, List.set_cons_succ, i64_w, i32_w]
    rfl
  refine one_ (i := 7) (N := none) #[true, true, true, true, true, true, true, true] rfl rfl (by kernel_rfl) (by decide) (fun K hK => ?_)
  refine skip_ (w1 := W5.drew.alloc (.cells #[.int .i64 ((i : Int) + 1), .string name, .int .u32 (x3 + 1), .int .i64 (0 : Int), .int .u32 (sumS data), .int .i64 0, .int .i64 hh, .slice A2 0 c2] 107)) (by rfl) rfl (by go_simp) ?_
  refine hK.out _ _ ⟨cellOf (ba (w := W5.drew) _) hS1.1, cellOf (ba (w := W5.drew) _) hS1.2.1, cellOf (ba (w := W5.drew) _) hS1.2.2.1, cellOf (ba (w := W5.drew) _) hS1.2.2.2.1, cellOf (ba (w := W5.drew) _) hS1.2.2.2.2.1, cellOf (ba (w := W5.drew) _) hS1.2.2.2.2.2.1, cellOf (ba (w := W5.drew) _) hS1.2.2.2.2.2.2⟩ (fun hHeld => ?_)
  clear hK K
  refine done_ (by kernel_rfl) ?_
  have hb37 : Below w3.heap.size w3 (W5.drew.alloc (.cells #[.int .i64 ((i : Int) + 1), .string name, .int .u32 (x3 + 1), .int .i64 (0 : Int), .int .u32 (sumS data), .int .i64 0, .int .i64 hh, .slice A2 0 c2] 107)) := hb6.drew.alloc (by rw [World.size_drew]; omega) _
  have hK37 := (Kp.below (ts := fun _ => False) (own := own) hb3 0).trans (Kp.below (ts := fun _ => False) (own := tagged w own 0) hb37 0)
  have hB7 : Blk (W5.drew.alloc (.cells #[.int .i64 ((i : Int) + 1), .string name, .int .u32 (x3 + 1), .int .i64 (0 : Int), .int .u32 (sumS data), .int .i64 0, .int .i64 hh, .slice A2 0 c2] 107)) W5.drew.heap.size #[.int .i64 ((i : Int) + 1), .string name, .int .u32 (x3 + 1), .int .i64 (0 : Int), .int .u32 (sumS data), .int .i64 0, .int .i64 hh, .slice A2 0 c2] 107 := blkNew rfl
  have hR7 := (HN2.out.rd own (w0 := w) hb2.size).keep i64K_K (by decide) (Kp.below (ts := fun _ => False) (own := tagged w own 0) hb37 0) (fun q => q)
  have hO7 : tagged w3 (tagged w own 0) 0 W5.drew.heap.size = 0 := tagged_new (by rw [World.size_drew]; omega)
  have hD7 := HDA.out.keep u8K_K (by decide) hK37 (fun q => q)
  have hM7 := HH.out.keep hK37 (fun q => q) (fun _ _ _ q => q)
  clear hb37 hHeld hS1 hB6
  generalize (W5.drew.alloc (.cells #[.int .i64 ((i : Int) + 1), .string name, .int .u32 (x3 + 1), .int .i64 (0 : Int), .int .u32 (sumS data), .int .i64 0, .int .i64 hh, .slice A2 0 c2] 107)) = W7 at *
  generalize tagged w3 (tagged w own 0) 0 = o7 at *
  generalize W5.drew.heap.size = q7 at *
  have HNE : newE (S.ar i) ((i : Int) + 1) name (x3 + 1) data = ⟨⟨(i : Int) + 1, name, (x3 + 1), (0 : Int), sumS data, 0⟩, hh, ds⟩ := by
    unfold newE
    rw [HDL.out, HFH'.out, HDS.out]
    rw [HDS0.out]
    rfl
  have hs16 := HHA.out.s16
  have hhs := HHA.out.hs
  have hXok : HD.ok ⟨(i : Int) + 1, name, (x3 + 1), (0 : Int), sumS data, 0⟩ := ⟨⟨by show (0 : Int) ≤ (i : Int) + 1; omega, by show (i : Int) + 1 < 256; omega⟩, hn16, ⟨by show (0 : Int) ≤ (x3 + 1); omega, by show (x3 + 1) < (4294967296 : Int); omega⟩, ⟨by show (0 : Int) ≤ (0 : Int); omega, by show (0 : Int) < 4294967296; omega⟩, xor_u32_bd _ _, ⟨by show (0 : Int) ≤ 0; omega, by show 0 < (65536 : Int); omega⟩⟩
  have hL := lay_ok W7 o7 t g gs ga S hM7 ht i hi hS HHA.out.fs hs16 (EP.mk ⟨⟨(i : Int) + 1, name, (x3 + 1), (0 : Int), sumS data, 0⟩, hh, ds⟩ ⟨A2, 0, c2⟩) hR7 hXok (fun y hy => ⟨by have := (HDM.out y hy).1; omega, (HDM.out y hy).2⟩) ⟨HHM.out.1, by have := HHM.out.2; show hh < ((S.ar i).sec : Int); omega⟩ A 0 c td data hD7 htd hu (by omega) HDSL.out (by have := HDSL.out; rw [hpe]; show 0 + ds.length + 2 < _; rw [HDS0.out]; decide)
  rw [layS_lim _ _ _ _ hlim] at hL
  have hblim := layB_lim (S.ar i) ⟨⟨(i : Int) + 1, name, (x3 + 1), (0 : Int), sumS data, 0⟩, hh, ds⟩ data S.b hlim
  have hbp := layB_pend (S.ar i) ⟨⟨(i : Int) + 1, name, (x3 + 1), (0 : Int), sumS data, 0⟩, hh, ds⟩ data S.b
  have HPS : putS S i (some (k, ⟨⟨x1, x2, x3, x4, x5, x6⟩, x7, xs⟩)) name data = SV.setE (delS (SV.setB S (layB (S.ar i) ⟨⟨(i : Int) + 1, name, (x3 + 1), (0 : Int), sumS data, 0⟩, hh, ds⟩ data S.b)) i k ⟨⟨x1, x2, x3, x4, x5, x6⟩, x7, xs⟩) i (((delS (SV.setB S (layB (S.ar i) ⟨⟨(i : Int) + 1, name, (x3 + 1), (0 : Int), sumS data, 0⟩, hh, ds⟩ data S.b)) i k ⟨⟨x1, x2, x3, x4, x5, x6⟩, x7, xs⟩).ar i).ents ++ [⟨⟨(i : Int) + 1, name, (x3 + 1), (0 : Int), sumS data, 0⟩, hh, ds⟩]) := by
    unfold putS
    simp only
    rw [HNE]
  have HX := Lib.hid HPS
  have hDe : ((delS (SV.setB S (layB (S.ar i) ⟨⟨(i : Int) + 1, name, (x3 + 1), (0 : Int), sumS data, 0⟩, hh, ds⟩ data S.b)) i k ⟨⟨x1, x2, x3, x4, x5, x6⟩, x7, xs⟩).ar i).ents.length ≤ (S.ar i).ents.length := by
    show ((SV.setE (SV.setB (SV.setB S (layB (S.ar i) ⟨⟨(i : Int) + 1, name, (x3 + 1), (0 : Int), sumS data, 0⟩, hh, ds⟩ data S.b)) _) i ((S.ar i).ents.eraseIdx k)).ar i).ents.length ≤ _
    unfold SV.setE
    dsimp only
    rw [if_pos rfl]
    exact List.length_eraseIdx_le _ _
  have HST := Lib.hid (fun (W : World) (o : Nat → Nat) (h : SvMem W o t g gs ga (SV.setB S (layB (S.ar i) ⟨⟨(i : Int) + 1, name, (x3 + 1), (0 : Int), sumS data, 0⟩, hh, ds⟩ data S.b))) (hk : BOk (layB (S.ar i) ⟨⟨(i : Int) + 1, name, (x3 + 1), (0 : Int), sumS data, 0⟩, hh, ds⟩ data S.b)) (hnn : (layB (S.ar i) ⟨⟨(i : Int) + 1, name, (x3 + 1), (0 : Int), sumS data, 0⟩, hh, ds⟩ data S.b).n = S.b.n) => strike_ok W o t g gs ga (SV.setB S (layB (S.ar i) ⟨⟨(i : Int) + 1, name, (x3 + 1), (0 : Int), sumS data, 0⟩, hh, ds⟩ data S.b)) h ht i hi hk (by show (S.ar i).frm + (S.ar i).sec ≤ (layB (S.ar i) ⟨⟨(i : Int) + 1, name, (x3 + 1), (0 : Int), sumS data, 0⟩, hh, ds⟩ data S.b).n; rw [hnn]; exact HHA.out.fs) k ⟨⟨x1, x2, x3, x4, x5, x6⟩, x7, xs⟩ HGE.out HEO.out.1 HEO.out.2.1 (by show (layB (S.ar i) ⟨⟨(i : Int) + 1, name, (x3 + 1), (0 : Int), sumS data, 0⟩, hh, ds⟩ data S.b).pend.length < _; rw [hbp]; decide) HHA.out.el)
  rw [strikeS_ok (SV.setB S (layB (S.ar i) ⟨⟨(i : Int) + 1, name, (x3 + 1), (0 : Int), sumS data, 0⟩, hh, ds⟩ data S.b)) i k ⟨⟨x1, x2, x3, x4, x5, x6⟩, x7, xs⟩ (full_lim hblim)] at HST
  have hdd : (delS (SV.setB S (layB (S.ar i) ⟨⟨(i : Int) + 1, name, (x3 + 1), (0 : Int), sumS data, 0⟩, hh, ds⟩ data S.b)) i k ⟨⟨x1, x2, x3, x4, x5, x6⟩, x7, xs⟩).dead = false := hd
  have hDar : ((delS (SV.setB S (layB (S.ar i) ⟨⟨(i : Int) + 1, name, (x3 + 1), (0 : Int), sumS data, 0⟩, hh, ds⟩ data S.b)) i k ⟨⟨x1, x2, x3, x4, x5, x6⟩, x7, xs⟩).ar i).ten = (S.ar i).ten := by unfold delS SV.setE; dsimp only; rw [if_pos rfl]; rfl
  generalize hDD : (delS (SV.setB S (layB (S.ar i) ⟨⟨(i : Int) + 1, name, (x3 + 1), (0 : Int), sumS data, 0⟩, hh, ds⟩ data S.b)) i k ⟨⟨x1, x2, x3, x4, x5, x6⟩, x7, xs⟩) = D at *
  clear HPS hDD
  generalize hLB : (layB (S.ar i) ⟨⟨(i : Int) + 1, name, (x3 + 1), (0 : Int), sumS data, 0⟩, hh, ds⟩ data S.b) = lb at *
  clear hLB HNE hDar hpe hlim hblim hbp
  have HL := Lib.hid hL
  have HOK := Lib.hid hXok
  clear hL hXok
  have e0 := Blk.cell (i := 0) hB7 rfl
  have e1 := Blk.cell (i := 1) hB7 rfl
  have e2 := Blk.cell (i := 2) hB7 rfl
  have e3 := Blk.cell (i := 3) hB7 rfl
  have e4 := Blk.cell (i := 4) hB7 rfl
  have e5 := Blk.cell (i := 5) hB7 rfl
  have e6 := Blk.cell (i := 6) hB7 rfl
  have e7 := Blk.cell (i := 7) hB7 rfl
  go_upto_region 21 with (first | (go_at_call 56; refine Calls.mono HL.out ?_; rintro e w8 ⟨rfl, l1, l2, o8, l3, l4⟩; simp only [if_true]) | (go_at_call 57; refine Calls.mono (HST.out w8 o8 l3 l1 l2) ?_; rintro e w9 ⟨rfl, l5, l6, o9, l7, l8⟩; simp only [if_true]))
  have HMC := Lib.hid l7
  have hkc : Kp (k20 t) W7 o7 w9 o9 := (l4.mono (fun q h => ⟨by rcases h with h | h | h <;> omega, by rcases h with h | h | h <;> omega⟩)).trans l8
  have hokb : BOk D.b := l5
  have hnb : D.b.n = S.b.n := l6.trans l2
  clear l1 l2 l3 l4 l5 l6 l7 l8
  obtain ⟨⟨zA2, zn2, zc2⟩, ps2, hg2, hb2x, hz2, hes2⟩ := HMC.out.ar i hi
  have hpn : ps2.length < 2 ^ 30 := by
    have h1 : ps2.length = (D.ar i).ents.length := by rw [← hes2.1, List.length_map]
    have := HHA.out.el
    omega
  have hq8 := (hB7.keep hkc (by rw [hO7]; intro h; have := h.1; omega)).1
  have hr8 := hR7.keep i64K_K (by decide) hkc (by intro h; have := h.1; omega)
  have hS2 : w9.cell? ⟨ga i, 4, none⟩ = some (.slice zA2 zn2 zc2) ∧ w9.cell? ⟨q7, 0, none⟩ = some (.int .i64 ((i : Int) + 1)) ∧ w9.cell? ⟨q7, 1, none⟩ = some (.string name) ∧ w9.cell? ⟨q7, 2, none⟩ = some (.int .u32 (x3 + 1)) ∧ w9.cell? ⟨q7, 3, none⟩ = some (.int .i64 (0 : Int)) ∧ w9.cell? ⟨q7, 4, none⟩ = some (.int .u32 (sumS data)) ∧ w9.cell? ⟨q7, 5, none⟩ = some (.int .i64 0) ∧ w9.cell? ⟨q7, 6, none⟩ = some (.int .i64 hh) ∧ w9.cell? ⟨q7, 7, none⟩ = some (.slice A2 0 c2) :=
    ⟨Blk.cell (i := 4) hb2x rfl, Blk.cell (i := 0) hq8 rfl, Blk.cell (i := 1) hq8 rfl, Blk.cell (i := 2) hq8 rfl, Blk.cell (i := 3) hq8 rfl, Blk.cell (i := 4) hq8 rfl, Blk.cell (i := 5) hq8 rfl, Blk.cell (i := 6) hq8 rfl, Blk.cell (i := 7) hq8 rfl⟩
  have HZ2 := Lib.hid hz2
  have HES := Lib.hid hes2
  have HB2 := Lib.hid hb2x
  have HG2 := Lib.hid hg2
  have HR8 := Lib.hid hr8
  have HKC := Lib.hid hkc
  have HK37 := Lib.hid hK37
  clear e0 e1 e2 e3 e4 e5 e6 e7
  clear hz2 hes2 hb2x hg2 hr8 hkc hq8 hR7 hD7 hM7 hB7 hK37
  refine start_ (n := 11) (S := fun w' => w'.cell? ⟨ga i, 4, none⟩ = some (.slice zA2 zn2 zc2) ∧ w'.cell? ⟨q7, 0, none⟩ = some (.int .i64 ((i : Int) + 1)) ∧ w'.cell? ⟨q7, 1, none⟩ = some (.string name) ∧ w'.cell? ⟨q7, 2, none⟩ = some (.int .u32 (x3 + 1)) ∧ w'.cell? ⟨q7, 3, none⟩ = some (.int .i64 (0 : Int)) ∧ w'.cell? ⟨q7, 4, none⟩ = some (.int .u32 (sumS data)) ∧ w'.cell? ⟨q7, 5, none⟩ = some (.int .i64 0) ∧ w'.cell? ⟨q7, 6, none⟩ = some (.int .i64 hh) ∧ w'.cell? ⟨q7, 7, none⟩ = some (.slice A2 0 c2)) (ds := [7, 10]) #[false, false, false, false, false, false, false, false, false, false, false] (by kernel_rfl) rfl rfl hS2 (fun hHeld => ?_)
  refine pure_ (i := 0) (N := some 129) (v := ?_) (a' := ?_) #[true, false, false, false, false, false, false, false, false, false, false] rfl rfl (by kernel_rfl) (fun _ _ _ h => h) (Or.inl ⟨by rfl, ?_⟩) ?_ ?_
  rotate_left
  · intro w'
    go_simp
    with_reducible rfl
  rotate_left
  · simp only [Act.put, List.setIfInBounds_toArray, List.set_cons_zero, List.set_cons_succ, i64_w, i32_w]
    rfl
  refine pure_ (i := 1) (N := some 130) (v := ?_) (a' := ?_) #[true, true, false, false, false, false, false, false, false, false, false] rfl rfl (by kernel_rfl) (fun _ _ _ h => h) (Or.inl ⟨by rfl, ?_⟩) ?_ ?_
  rotate_left
  · intro w'
    go_simp
    with_reducible rfl
  rotate_left
  · simp only [Act.put, List.setIfInBounds_toArray, List.set_cons_zero, List.set_cons_succ, i64_w, i32_w]
    rfl
  refine pure_ (i := 2) (N := some 131) (v := ?_) (a' := ?_) #[true, true, true, false, false, false, false, false, false, false, false] rfl rfl (by kernel_rfl) (fun _ _ _ h => h) (Or.inl ⟨by rfl, ?_⟩) ?_ ?_
  rotate_left
  · intro w'
    go_simp
    with_reducible rfl
  rotate_left
  · simp only [Act.put, List.setIfInBounds_toArray, List.set_cons_zero, List.set_cons_succ, i64_w, i32_w]
    rfl
  refine pure_ (i := 3) (N := some 132) (v := ?_) (a' := ?_) #[true, true, true, true, false, false, false, false, false, false, false] rfl rfl (by kernel_rfl) (fun _ _ _ h => h) (Or.inl ⟨by rfl, ?_⟩) ?_ ?_
  rotate_left
  · intro w'
    go_simp
    with_reducible rfl
  rotate_left
  · simp only [Act.put, List.setIfInBounds_toArray, List.set_cons_zero, List.set_cons_succ, i64_w, i32_w]
    rfl
  refine take_ (i := 4) (N := some 133) (v := ?_) (a' := ?_) #[true, true, true, true, true, false, false, false, false, false, false] rfl rfl (by kernel_rfl) (fun _ _ _ h => h) (Or.inl ⟨by rfl, ?_⟩) hHeld ?_ ?_
  rotate_left
  · intro w' s0
    obtain ⟨q1, q2, q3, q4, q5, q6, q7x, q8, q9⟩ := s0
    go_simp
    with_reducible rfl
  rotate_left
  · simp only [Act.put, List.setIfInBounds_toArray, List.set_cons_zero, List.set_cons_succ, i64_w, i32_w]
    rfl
  refine take_ (i := 5) (N := some 134) (v := ?_) (a' := ?_) #[true, true, true, true, true, true, false, false, false, false, false] rfl rfl (by kernel_rfl) (fun _ _ _ h => h) (Or.inl ⟨by rfl, ?_⟩) hHeld ?_ ?_
  rotate_left
  · intro w' s0
    obtain ⟨q1, q2, q3, q4, q5, q6, q7x, q8, q9⟩ := s0
    go_simp
    with_reducible rfl
  rotate_left
  · simp only [Act.put, List.setIfInBounds_toArray, List.set_cons_zero, List.set_cons_succ, i64_w, i32_w]
    rfl
  refine one_ (i := 6) (N := some 135) #[true, true, true, true, true, true, true, false, false, false, false] rfl rfl (by kernel_rfl) (by decide) (fun K hK => ?_)
  refine value_ (v := .slice (some ⟨w9.drew.heap.size, 0, none⟩) 1 1) (w1 := w9.drew.alloc (.cells #[.int .i64 ((i : Int) + 1), .string name, .int .u32 (x3 + 1), .int .i64 (0 : Int), .int .u32 (sumS data), .int .i64 0, .int .i64 hh, .slice A2 0 c2] 107)) (by rfl) rfl (by go_simp) ?_
  refine hK.out _ _ ⟨cellOf (ba _) hHeld.1, cellOf (ba _) hHeld.2.1, cellOf (ba _) hHeld.2.2.1, cellOf (ba _) hHeld.2.2.2.1, cellOf (ba _) hHeld.2.2.2.2.1, cellOf (ba _) hHeld.2.2.2.2.2.1, cellOf (ba _) hHeld.2.2.2.2.2.2.1, cellOf (ba _) hHeld.2.2.2.2.2.2.2.1, cellOf (ba _) hHeld.2.2.2.2.2.2.2.2⟩ (fun hHeld => ?_)
  clear hK K
  refine norm_ (a' := ?_) ?_ ?_
  rotate_left
  · show Act.put _ (some 135) _ = _
    simp only [Act.put, List.setIfInBounds_toArray, List.set_cons_zero, List.set_cons_succ, i64_w, i32_w]
    rfl
  refine last_ (i := 7) (N := some 136) #[true, true, true, true, true, true, true, true, false, false, false] rfl rfl (by kernel_rfl) (by decide) (fun K hK => ?_)
  refine Kd.R_append_step enK (w0 := w9.drew) 0 (by rfl) (.tmp 133) (.tmp 135) 100 107 (.agg #[.int .i64 0, .string ⟨#[]⟩, .int .u32 0, .int .i64 0, .int .u32 0, .int .i64 0, .int .i64 0, .slice none 0 0]) 88 rfl Tryz.underlying100 info107 rfl (by decide) (by decide) (Sl.mk zA2 zn2 zc2).enc ps2 (EP.mk ⟨⟨(i : Int) + 1, name, (x3 + 1), (0 : Int), sumS data, 0⟩, hh, ds⟩ ⟨A2, 0, c2⟩) [.int .i64 ((i : Int) + 1), .string name, .int .u32 (x3 + 1), .int .i64 (0 : Int), .int .u32 (sumS data), .int .i64 0, .int .i64 hh, .slice A2 0 c2] (fun k => tagged w9.drew o9 (t + 12 + i) k = t + 12 + i) (fun _ => False) rfl rfl rfl (fun _ hk => hk.elim) (fun q hq => tagged_new (show w9.drew.heap.size ≤ q from hq)) (Ow.alloc (w := w9.drew) HZ2.out (Below.refl _ _)) (Below.refl 0 _) (Nat.zero_le _) (by omega) ?_
  intro v3 wa ho hb hg3 hat
  obtain ⟨s3, rfl, ho', hk'⟩ := Ow.pushed (w := w9.drew) HZ2.out (Below.refl _ _) ho hg3
  clear ho hb hg3 hat
  refine hK.out _ _ ?_
  clear hK K
  refine norm_ (a' := ?_) ?_ ?_
  rotate_left
  · show Act.put _ (some 136) _ = _
    simp only [Act.put, List.setIfInBounds_toArray, List.set_cons_zero, List.set_cons_succ, i64_w, i32_w]
    rfl
  refine pure_ (i := 8) (N := some 137) (v := ?_) (a' := ?_) #[true, true, true, true, true, true, true, true, true, false, false] rfl rfl (by kernel_rfl) (fun _ _ _ h => h) (Or.inl ⟨by rfl, ?_⟩) ?_ ?_
  rotate_left
  · intro w'
    go_simp
    with_reducible rfl
  rotate_left
  · simp only [Act.put, List.setIfInBounds_toArray, List.set_cons_zero, List.set_cons_succ, i64_w, i32_w]
    rfl
  refine pure_ (i := 9) (N := some 138) (v := ?_) (a' := ?_) #[true, true, true, true, true, true, true, true, true, true, false] rfl rfl (by kernel_rfl) (fun _ _ _ h => h) (Or.inl ⟨by rfl, ?_⟩) ?_ ?_
  rotate_left
  · intro w'
    go_simp
    with_reducible rfl
  rotate_left
  · simp only [Act.put, List.setIfInBounds_toArray, List.set_cons_zero, List.set_cons_succ, i64_w, i32_w]
    rfl
  refine last_ (i := 10) (N := none) #[true, true, true, true, true, true, true, true, true, true, true] rfl rfl (by kernel_rfl) (by decide) (fun K hK => ?_)
  have hbz := Blk.keep (w := w9.drew) HB2.out hk' (by rw [HG2.out]; omega)
  have c3 := Blk.cell (i := 4) hbz.1 rfl
  have z3 := Blk.frozen (i := 4) hbz.1
  refine skip_ (w1 := wa.setCell ⟨ga i, 4, none⟩ s3.enc) (by rfl) rfl (by simp only [Sl.enc]; go_simp) ?_
  refine hK.out _ _ ?_
  clear hK K
  refine done_ (by kernel_rfl) ?_
  have HEE := Lib.hid (entry_endD (S := D) (x := (EP.mk ⟨⟨(i : Int) + 1, name, (x3 + 1), (0 : Int), sumS data, 0⟩, hh, ds⟩ ⟨A2, 0, c2⟩)) HMC.out ht i hi HG2.out HB2.out HES.out HR8.out ho' hk')
  clear ho' hk' hbz c3 z3 hHeld hS2
  have HDN := Lib.hid (done_nil _ _ t g gs ga _ HEE.out.1 ht hdd)
  go_wp2_with (go_at_call 58; refine HDN.out.mono ?_; rintro e wb ⟨rfl, ob, d1, d2⟩)
  go_ret
  rw [HX.out]
  exact ⟨rfl, hokb, hnb, ob, d1, (((HK37.out.mono (fun _ h => h.elim)).trans HKC.out).trans HEE.out.2).trans d2⟩
end Go.Proofs.YtmofiicjaldmiaaGreatDoor.SwE
namespace Go.Proofs.YtmofiicjaldmiaaGreatDoor.SwF
open Go.RowKit Go.Shelf Go.Proofs.YtmofiicjaldmiaaGreatDoorW.PrintWords Go.Proofs.YtmofiicjaldmiaaGreatDoorW.PrintLast Go.Proofs.YtmofiicjaldmiaaGreatDoor.SvA Go.Proofs.YtmofiicjaldmiaaGreatDoor.SvB Go.Proofs.YtmofiicjaldmiaaGreatDoor.SvC Go.Proofs.YtmofiicjaldmiaaGreatDoor.SvD Go.Proofs.YtmofiicjaldmiaaGreatDoor.SvE Go.Proofs.YtmofiicjaldmiaaGreatDoor.SvF Go.Proofs.YtmofiicjaldmiaaGreatDoor.SvG Go.Proofs.YtmofiicjaldmiaaGreatDoor.SvH Go.Proofs.YtmofiicjaldmiaaGreatDoor.SvI Go.Proofs.YtmofiicjaldmiaaGreatDoor.SvJ Go.Proofs.YtmofiicjaldmiaaGreatDoor.SvK Go.Proofs.YtmofiicjaldmiaaGreatDoor.SvL Go.Proofs.YtmofiicjaldmiaaGreatDoor.SvM Go.Proofs.YtmofiicjaldmiaaGreatDoor.SvN Go.Proofs.YtmofiicjaldmiaaGreatDoor.SvO Go.Proofs.YtmofiicjaldmiaaGreatDoor.SvP Go.Proofs.YtmofiicjaldmiaaGreatDoor.SvQ Go.Proofs.YtmofiicjaldmiaaGreatDoor.SvR Go.Proofs.YtmofiicjaldmiaaGreatDoor.SvS Go.Proofs.YtmofiicjaldmiaaGreatDoor.SvT Go.Proofs.YtmofiicjaldmiaaGreatDoor.SvU Go.Proofs.YtmofiicjaldmiaaGreatDoor.SvV Go.Proofs.YtmofiicjaldmiaaGreatDoor.SvW Go.Proofs.YtmofiicjaldmiaaGreatDoor.SvX Go.Proofs.YtmofiicjaldmiaaGreatDoor.SvY Go.Proofs.YtmofiicjaldmiaaGreatDoor.SvZ Go.Proofs.YtmofiicjaldmiaaGreatDoor.SwA
set_option linter.unusedVariables false
set_option linter.unusedSimpArgs false
set_option maxRecDepth 100000 in
set_option maxHeartbeats 4000000 in
theorem put_pos_1 (w : World) (own : Nat → Nat) (t g gs : Nat) (ga : Nat → Nat) (S : SV) (H : SvMem w own t g gs ga S) (ht : t ≠ 0) (i : Nat) (hi : i < 8) (hS : BOk S.b) (hA : AOk S i) (name : ByteArray) (hs : name.size < 2 ^ 62) (hn16 : name.size ≤ 16) (hd : S.dead = false) (hok : nameOk name = true) (A : Option Addr) (n c td : Nat) (data : List Int) (hda : Rd u8K w own td ⟨A, n, c⟩ data) (htd : ¬ k3 t td) (hu : u8s data) (hn : n ≤ 131072) (k : Nat) (hf : findI (fun e => e.hd.name == name) (S.ar i).ents = k) (e0 : EN) (he : (S.ar i).ents[k]? = some e0) (hv : e0.hd.ver < 4294967295) (hroom : freeH (S.ar i) ≠ [] ∧ (freeD (S.ar i) (many n)).length = many n) (hlim : S.b.lim = false) (hpe : S.b.pend = []) (hn0 : 0 < n) :
    Calls Tryz.prog 23 #[pt g, .int .i64 ((i : Int) + 1), .string name, .slice A n c] w (ActP w own t g gs ga S.b.n (putS S i (some (k, e0)) name data)) := by
  have hcn := named_yes w own t g gs ga S H i hi name hs hd hok (by have := hA.el; omega)
  rw [hf] at hcn
  have HH := Lib.hid H
  obtain ⟨z, ps, hg, hb, hz, hes⟩ := H.ar i hi
  have hpl : ps.length = (S.ar i).ents.length := by rw [← hes.1, List.length_map]
  have hkl : k < ps.length := by rw [hpl]; exact (List.getElem?_eq_some_iff.1 he).1
  obtain ⟨x0, hx⟩ : ∃ x, ps[k]? = some x := ⟨_, List.getElem?_eq_getElem hkl⟩
  have hxe : x0.en = e0 := by
    have h1 : (ps.map (·.en))[k]? = some x0.en := by rw [List.getElem?_map, hx]; rfl
    rw [hes.1, he] at h1
    injection h1 with h1
    exact h1.symm
  subst hxe
  obtain ⟨gb, hgb⟩ := ow_head hz (by rw [← (ow_len hz).1]; omega)
  obtain ⟨zA, zn, zc⟩ := z
  injection hgb with hgb _ _
  subst hgb
  have hkn0 : ps.length = zn := (ow_len hz).1
  have hkn : (k : Int) < (zn : Int) := by omega
  have hk0 : (0 : Int) ≤ (k : Int) := by omega
  have hk40 : k < 2 ^ 30 := by have := hA.el; omega
  have HE := Lib.hid (fun (W : World) (h : Below w.heap.size w W) => stS (hb.below h) (hz.keep (Kp.below (ts := fun _ => False) h 0) (fun q => q)) hx)
  have HEO := Lib.hid (hA.eo x0.en (List.mem_of_getElem? he))
  have HGE := Lib.hid he
  clear hb hz hes hx hg hpl hkl hf he hkn0
  obtain ⟨⟨⟨x1, x2, x3, x4, x5, x6⟩, x7, xs⟩, ⟨x8, x9, x10⟩⟩ := x0
  dsimp only at *
  have hx3 : 0 ≤ x3 := HEO.out.1.v0.1
  have hve : (x3 == 4294967295) = false := beq_eq_false_iff_ne.2 (by omega)
  have hrk : decide ((k : Int) ≥ 0) = true := by simp
  have HC := Lib.hid hcn
  have HFH := Lib.hid (fun (W : World) (h : Below w.heap.size w W) => heads_ok W _ _ _ _ _ ((HH.out.below h).ar i hi) (by have := hA.el; omega) (by have := hA.s16; have := hA.hs; omega))
  have HFD := Lib.hid (fun (W : World) (h : Below w.heap.size w W) => data_ok W _ _ _ _ _ ((HH.out.below h).ar i hi) (by have := hA.el; omega) (by have := hA.s16; have := hA.hs; omega) (by have := hA.s16; omega) (fun e he => by have := (hA.eo e he).2.2.2; omega) (many n) (by unfold many; omega))
  have HAR := Lib.hid (fun (W : World) (h : Below w.heap.size w W) => ar_c1 ((HH.out.below h).ar i hi))
  have HDA := Lib.hid hda
  have hdl : data.length = n := hda.1.1
  have hnc : n ≤ c := hda.2.1
  have HHA := Lib.hid hA
  clear hcn H hok hda hA
  go_enter Tryz.func23, Tryz.ntmps23
  go_upto_region 7 with (first | (go_at_call 50; refine HC.out.mono ?_; rintro e w1 ⟨rfl, hb1⟩; have q3 := (HAR.out w1 hb1).2.2.2) | (go_at_call 51; refine Calls.mono (HFH.out w1 hb1) ?_; rintro e w2 ⟨⟨A1, n1, c1⟩, rfl, hN1⟩; unfold Sl.enc; dsimp only))
  have hb2 : Below w.heap.size w w2 := hb1.trans (hN1.below.mono hb1.size)
  have HN1 := Lib.hid hN1
  clear hN1 q3
  have hS0 : w2.cell? ⟨ga i, 2, none⟩ = some (.int .i64 ((S.ar i).sec : Int)) ∧ w2.cell? ⟨ga i, 3, none⟩ = some (.int .i64 ((S.ar i).heads : Int)) := ⟨(HAR.out w2 hb2).2.2.1, (HAR.out w2 hb2).2.2.2⟩
  refine start_ (n := 14) (S := fun w' => w'.cell? ⟨ga i, 2, none⟩ = some (.int .i64 ((S.ar i).sec : Int)) ∧ w'.cell? ⟨ga i, 3, none⟩ = some (.int .i64 ((S.ar i).heads : Int))) (ds := []) #[false, false, false, false, false, false, false, false, false, false, false, false, false, false] (by kernel_rfl) rfl rfl hS0 (fun hHeld => ?_)
  refine pure_ (i := 0) (N := some 38) (v := ?_) (a' := ?_) #[true, false, false, false, false, false, false, false, false, false, false, false, false, false] rfl rfl (by kernel_rfl) (fun _ _ _ h => h) (Or.inl ⟨by rfl, ?_⟩) ?_ ?_
  rotate_left
  · intro w'
    go_simp
    with_reducible rfl
  rotate_left
  · simp only [Act.put, List.setIfInBounds_toArray, List.set_cons_zero, List.set_cons_succ, i64_w, i32_w]
    rfl
  refine pure_ (i := 1) (N := some 39) (v := ?_) (a' := ?_) #[true, true, false, false, false, false, false, false, false, false, false, false, false, false] rfl rfl (by kernel_rfl) (fun _ _ _ h => h) (Or.inl ⟨by rfl, ?_⟩) ?_ ?_
  rotate_left
  · intro w'
    go_simp
    with_reducible rfl
  rotate_left
  · simp only [Act.put, List.setIfInBounds_toArray, List.set_cons_zero, List.set_cons_succ, i64_w, i32_w]
    rfl
  refine pure_ (i := 2) (N := some 40) (v := ?_) (a' := ?_) #[true, true, true, false, false, false, false, false, false, false, false, false, false, false] rfl rfl (by kernel_rfl) (fun _ _ _ h => h) (Or.inl ⟨by rfl, ?_⟩) ?_ ?_
  rotate_left
  · intro w'
    go_simp
    with_reducible rfl
  rotate_left
  · simp only [Act.put, List.setIfInBounds_toArray, List.set_cons_zero, List.set_cons_succ, i64_w, i32_w]
    rfl
  refine pure_ (i := 3) (N := some 41) (v := ?_) (a' := ?_) #[true, true, true, true, false, false, false, false, false, false, false, false, false, false] rfl rfl (by kernel_rfl) (fun _ _ _ h => h) (Or.inl ⟨by rfl, ?_⟩) ?_ ?_
  rotate_left
  · intro w'
    go_simp
    with_reducible rfl
  rotate_left
  · simp only [Act.put, List.setIfInBounds_toArray, List.set_cons_zero, List.set_cons_succ, i64_w, i32_w]
    rfl
  refine take_ (i := 4) (N := some 42) (v := ?_) (a' := ?_) #[true, true, true, true, true, false, false, false, false, false, false, false, false, false] rfl rfl (by kernel_rfl) (fun _ _ _ h => h) (Or.inl ⟨by rfl, ?_⟩) hHeld ?_ ?_
  rotate_left
  · intro w' s0
    obtain ⟨q1, q2⟩ := s0
    go_simp
    with_reducible rfl
  rotate_left
  · simp only [Act.put, List.setIfInBounds_toArray, List.set_cons_zero, List.set_cons_succ, i64_w, i32_w]
    rfl
  refine pure_ (i := 5) (N := some 43) (v := ?_) (a' := ?_) #[true, true, true, true, true, true, false, false, false, false, false, false, false, false] rfl rfl (by kernel_rfl) (fun _ _ _ h => h) (Or.inl ⟨by rfl, ?_⟩) ?_ ?_
  rotate_left
  · intro w'
    go_simp
    with_reducible rfl
  rotate_left
  · simp only [Act.put, List.setIfInBounds_toArray, List.set_cons_zero, List.set_cons_succ, i64_w, i32_w]
    rfl
  refine pure_ (i := 6) (N := some 44) (v := ?_) (a' := ?_) #[true, true, true, true, true, true, true, false, false, false, false, false, false, false] rfl rfl (by kernel_rfl) (fun _ _ _ h => h) (Or.inl ⟨by rfl, ?_⟩) ?_ ?_
  rotate_left
  · intro w'
    go_simp
    with_reducible rfl
  rotate_left
  · simp only [Act.put, List.setIfInBounds_toArray, List.set_cons_zero, List.set_cons_succ, i64_w, i32_w]
    rfl
  refine pure_ (i := 7) (N := some 45) (v := ?_) (a' := ?_) #[true, true, true, true, true, true, true, true, false, false, false, false, false, false] rfl rfl (by kernel_rfl) (fun _ _ _ h => h) (Or.inl ⟨by rfl, ?_⟩) ?_ ?_
  rotate_left
  · intro w'
    go_simp
    with_reducible rfl
  rotate_left
  · simp only [Act.put, List.setIfInBounds_toArray, List.set_cons_zero, List.set_cons_succ, i64_w, i32_w]
    rfl
  refine take_ (i := 8) (N := some 46) (v := ?_) (a' := ?_) #[true, true, true, true, true, true, true, true, true, false, false, false, false, false] rfl rfl (by kernel_rfl) (fun _ _ _ h => h) (Or.inl ⟨by rfl, ?_⟩) hHeld ?_ ?_
  rotate_left
  · intro w' s0
    obtain ⟨q1, q2⟩ := s0
    go_simp
    with_reducible rfl
  rotate_left
  · simp only [Act.put, List.setIfInBounds_toArray, List.set_cons_zero, List.set_cons_succ, i64_w, i32_w]
    rfl
  refine pure_ (i := 9) (N := some 47) (v := ?_) (a' := ?_) #[true, true, true, true, true, true, true, true, true, true, false, false, false, false] rfl rfl (by kernel_rfl) (fun _ _ _ h => h) (Or.inl ⟨by rfl, ?_⟩) ?_ ?_
  rotate_left
  · intro w'
    go_simp
    with_reducible rfl
  rotate_left
  · simp only [Act.put, List.setIfInBounds_toArray, List.set_cons_zero, List.set_cons_succ, i64_w, i32_w]
    rfl
  refine pure_ (i := 10) (N := some 48) (v := ?_) (a' := ?_) #[true, true, true, true, true, true, true, true, true, true, true, false, false, false] rfl rfl (by kernel_rfl) (fun _ _ _ h => h) (Or.inl ⟨by rfl, ?_⟩) ?_ ?_
  rotate_left
  · intro w'
    go_simp
    with_reducible rfl
  rotate_left
  · simp only [Act.put, List.setIfInBounds_toArray, List.set_cons_zero, List.set_cons_succ, i64_w, i32_w]
    rfl
  refine one_ (i := 11) (N := some 49) #[true, true, true, true, true, true, true, true, true, true, true, true, false, false] rfl rfl (by kernel_rfl) (by decide) (fun K hK => ?_)
  refine goes_ Tryz.func53 (by kernel_rfl) rfl #[.int .i64 (n : Int)] (by first | rfl | (simp [Act.eval]; done)) rfl rfl (by first | rfl | (simp [Act.eval]; done)) ?_
  refine Calls.mono (many_ok _ n (by omega)) ?_
  rintro e w' ⟨rfl, rfl⟩
  refine ⟨_, rfl, ?_⟩
  refine hK.out _ _ hHeld (fun hHeld => ?_)
  clear hK K
  refine norm_ (a' := ?_) ?_ ?_
  rotate_left
  · show Act.put _ (some 49) _ = _
    simp only [Act.put, List.setIfInBounds_toArray, List.set_cons_zero, List.set_cons_succ, i64_w, i32_w]
    rfl
  refine one_ (i := 12) (N := some 50) #[true, true, true, true, true, true, true, true, true, true, true, true, true, false] rfl rfl (by kernel_rfl) (by decide) (fun K hK => ?_)
  refine goes_ Tryz.func51 (by kernel_rfl) rfl #[pt (ga i), .int .i64 ((S.ar i).heads : Int), .int .i64 ((S.ar i).sec : Int), .int .i64 (many n : Int), .func (.func 54) #[] #[]] (by first | rfl | (simp [Act.eval]; done)) rfl rfl (by first | rfl | (simp [Act.eval]; done)) ?_
  refine Calls.mono (HFD.out w2.drew hb2.drew) ?_
  rintro e w3 ⟨⟨A2, n2, c2⟩, rfl, hN2⟩
  unfold Sl.enc; dsimp only
  refine ⟨_, rfl, ?_⟩
  refine hK.out _ _ ⟨cellOf hN2.below hHeld.1, cellOf hN2.below hHeld.2⟩ (fun hHeld => ?_)
  clear hK K
  refine norm_ (a' := ?_) ?_ ?_
  rotate_left
  · show Act.put _ (some 50) _ = _
    simp only [Act.put, List.setIfInBounds_toArray, List.set_cons_zero, List.set_cons_succ, i64_w, i32_w]
    rfl
  refine pure_ (i := 13) (N := some 13) (v := ?_) (a' := ?_) #[true, true, true, true, true, true, true, true, true, true, true, true, true, true] rfl rfl (by kernel_rfl) (fun _ _ _ h => h) (Or.inl ⟨by rfl, ?_⟩) ?_ ?_
  rotate_left
  · intro w'
    go_simp
    with_reducible rfl
  rotate_left
  · simp only [Act.put, List.setIfInBounds_toArray, List.set_cons_zero, List.set_cons_succ, i64_w, i32_w]
    rfl
  refine done_ (by kernel_rfl) ?_
  have hb3 : Below w.heap.size w w3 := hb2.drew.trans (hN2.below.mono hb2.size)
  have HN2 := Lib.hid hN2
  clear hHeld hN2 hS0
  obtain ⟨q0, q1, q2, q3, q4, q5, q6, q7⟩ := HE.out w3 hb3; dsimp only at q0 q1 q2 q3 q4 q5 q6 q7
  go_upto_region 9 with (fail)
  obtain ⟨hh, hfh⟩ : ∃ hh, freeH (S.ar i) = [hh] := by
    have := freeH_len (S.ar i)
    rcases hfl : freeH (S.ar i) with _ | ⟨x, _ | ⟨y, l⟩⟩
    · exact absurd hfl hroom.1
    · exact ⟨x, rfl⟩
    · rw [hfl] at this; simp at this
  rw [hfh] at HN1
  obtain rfl : n1 = 1 := HN1.out.len
  obtain ⟨b1, hA1, hb1l⟩ := HN1.out.hd Nat.one_pos
  dsimp only at hA1
  subst hA1
  have hhm : 0 ≤ hh ∧ hh < ((S.ar i).heads : Int) := by have := freeH_mem (show hh ∈ freeH (S.ar i) by rw [hfh]; exact List.mem_singleton.2 rfl); exact ⟨this.1, this.2.1⟩
  generalize hds : freeD (S.ar i) (many n) = ds at *
  have hdm : ∀ x ∈ ds, ((S.ar i).heads : Int) ≤ x ∧ x < ((S.ar i).sec : Int) := fun x hx => by rw [← hds] at hx; have := freeD_mem hx; exact ⟨this.1, this.2.1⟩
  have hdsl : ds.length = many n := hroom.2
  have hn2 : n2 = many n := HN2.out.len.trans hdsl
  subst hn2
  have hm0 : 0 < many n := by unfold many; omega
  have hm1 : (0 : Int) < (many n : Int) := by omega
  have hm2 : decide ((many n : Int) > 0) = true := decide_eq_true hm1
  have ed : decide ((many n : Int) < (many n : Int)) = false := by simp
  have hm4 : many n < 2 ^ 30 := by unfold many; omega
  obtain ⟨b2, hA2, hb2l⟩ := HN2.out.hd hm0
  dsimp only at hA2
  subst hA2
  obtain ⟨d0, hd0⟩ : ∃ d0, ds[0]? = some d0 := ⟨_, List.getElem?_eq_getElem (by omega)⟩
  have HDM := Lib.hid hdm
  have HHM := Lib.hid hhm
  have HDS := Lib.hid hds
  have HFH' := Lib.hid hfh
  have HDSL := Lib.hid hdsl
  have HRM := Lib.hid hroom
  have HDL := Lib.hid hdl
  clear hdm hhm hds hfh hdsl hroom hdl
  have HD0 := Lib.hid hd0
  clear hd0
  have HSUM := Lib.hid (sum_ok w3 A n c data (BytesAt.below (B := 0) (A := A) (n := n) HDA.out.1 hb3) hu (by omega) hnc)
  go_upto_region 12 with (first | (go_at_call 53; refine (many_ok _ n (by omega)).mono ?_; rintro e w' ⟨rfl, rfl⟩) | (go_at_call 55; refine HSUM.out.mono ?_; rintro e w' ⟨rfl, rfl⟩))
  have HB0 := Lib.hid (hb3.alloc hb3.size (Obj.cells #[.int .i64 ((i : Int) + 1), .string name, .int .u32 1, .int .i64 (n : Int), .int .u32 (sumS data), .int .i64 0] 105))
  have hB4 : Blk (w3.alloc (Obj.cells #[.int .i64 ((i : Int) + 1), .string name, .int .u32 1, .int .i64 (n : Int), .int .u32 (sumS data), .int .i64 0] 105)) w3.heap.size #[.int .i64 ((i : Int) + 1), .string name, .int .u32 1, .int .i64 (n : Int), .int .u32 (sumS data), .int .i64 0] 105 := blkNew rfl
  have hbA := ba (w := w3) (Obj.cells #[.int .i64 ((i : Int) + 1), .string name, .int .u32 1, .int .i64 (n : Int), .int .u32 (sumS data), .int .i64 0] 105)
  have hz4 : (w3.alloc (Obj.cells #[.int .i64 ((i : Int) + 1), .string name, .int .u32 1, .int .i64 (n : Int), .int .u32 (sumS data), .int .i64 0] 105)).heap.size = w3.heap.size + 1 := by simp
  generalize w3.alloc (Obj.cells #[.int .i64 ((i : Int) + 1), .string name, .int .u32 1, .int .i64 (n : Int), .int .u32 (sumS data), .int .i64 0] 105) = W4 at *
  have hpw : w.heap.size ≤ w3.heap.size := hb3.size
  obtain ⟨q0, q1, q2, q3, q4, q5, q6, q7⟩ := HE.out W4 HB0.out
  dsimp only at q0 q1 q2 q3 q4 q5 q6 q7
  have c2 : W4.cell? ⟨w3.heap.size, 2, none⟩ = some (.int .u32 1) := Blk.cell (i := 2) hB4 rfl
  have z2 : W4.frozen? ⟨w3.heap.size, 2, none⟩ = false := Blk.frozen hB4
  have hx31 : x3 < 4294967295 := hv
  go_upto_region 14 with (fail)
  have hB5 := Blk.set (i := 2) hB4 (.int .u32 (x3 + 1))
  have hb5 : Below w3.heap.size w3 (W4.setCell ⟨w3.heap.size, 2, none⟩ (.int .u32 (x3 + 1))) := hbA.setCell (p := ⟨w3.heap.size, 2, none⟩) (Nat.le_refl _) _
  have hz5 : (W4.setCell ⟨w3.heap.size, 2, none⟩ (.int .u32 (x3 + 1))).heap.size = w3.heap.size + 1 := by rw [World.size_setCell]; exact hz4
  generalize W4.setCell ⟨w3.heap.size, 2, none⟩ (.int .u32 (x3 + 1)) = W5 at *
  clear c2 z2 q0 q1 q2 q3 q4 q5 q6 q7 hB4 hbA hz4
  have c5 : W5.cell? ⟨w3.heap.size, 5, none⟩ = some (.int .i64 0) := Blk.cell (i := 5) hB5 rfl
  have z5 : W5.frozen? ⟨w3.heap.size, 5, none⟩ = false := Blk.frozen hB5
  have cd0 : W5.cell? ⟨b2, 0, none⟩ = some (.int .i64 d0) := cellOf hb5 (HN2.out.cell 0 d0 HD0.out)
  go_upto_region 16 with (fail)
  have hB6 := Blk.set (i := 5) hB5 (.int .i64 d0)
  have hb6 : Below w3.heap.size w3 (W5.setCell ⟨w3.heap.size, 5, none⟩ (.int .i64 d0)) := hb5.setCell (p := ⟨w3.heap.size, 5, none⟩) (Nat.le_refl _) _
  have hz6 : (W5.setCell ⟨w3.heap.size, 5, none⟩ (.int .i64 d0)).heap.size = w3.heap.size + 1 := by rw [World.size_setCell]; exact hz5
  generalize W5.setCell ⟨w3.heap.size, 5, none⟩ (.int .i64 d0) = W6 at *
  clear c5 z5 cd0 hB5 hb5 hz5
  have ch : W6.cell? ⟨b1, 0, none⟩ = some (.int .i64 hh) := cellOf hb6 (cellOf HN2.out.below (HN1.out.cell 0 hh rfl))
  simp at hB6
  have hS1 : W6.cell? ⟨w3.heap.size, 0, none⟩ = some (.int .i64 ((i : Int) + 1)) ∧ W6.cell? ⟨w3.heap.size, 1, none⟩ = some (.string name) ∧ W6.cell? ⟨w3.heap.size, 2, none⟩ = some (.int .u32 (x3 + 1)) ∧ W6.cell? ⟨w3.heap.size, 3, none⟩ = some (.int .i64 (n : Int)) ∧ W6.cell? ⟨w3.heap.size, 4, none⟩ = some (.int .u32 (sumS data)) ∧ W6.cell? ⟨w3.heap.size, 5, none⟩ = some (.int .i64 d0) ∧ W6.cell? ⟨b1, 0, none⟩ = some (.int .i64 hh) :=
    ⟨Blk.cell (i := 0) hB6 rfl, Blk.cell (i := 1) hB6 rfl, Blk.cell (i := 2) hB6 rfl, Blk.cell (i := 3) hB6 rfl, Blk.cell (i := 4) hB6 rfl, Blk.cell (i := 5) hB6 rfl, ch⟩
  clear ch
  refine start_ (n := 8) (S := fun w' => w'.cell? ⟨w3.heap.size, 0, none⟩ = some (.int .i64 ((i : Int) + 1)) ∧ w'.cell? ⟨w3.heap.size, 1, none⟩ = some (.string name) ∧ w'.cell? ⟨w3.heap.size, 2, none⟩ = some (.int .u32 (x3 + 1)) ∧ w'.cell? ⟨w3.heap.size, 3, none⟩ = some (.int .i64 (n : Int)) ∧ w'.cell? ⟨w3.heap.size, 4, none⟩ = some (.int .u32 (sumS data)) ∧ w'.cell? ⟨w3.heap.size, 5, none⟩ = some (.int .i64 d0) ∧ w'.cell? ⟨b1, 0, none⟩ = some (.int .i64 hh)) (ds := []) #[false, false, false, false, false, false, false, false] (by kernel_rfl) rfl rfl hS1 (fun hHeld => ?_)
  refine take_ (i := 0) (N := some 106) (v := ?_) (a' := ?_) #[true, false, false, false, false, false, false, false] rfl rfl (by kernel_rfl) (fun _ _ _ h => h) (Or.inl ⟨by rfl, ?_⟩) hHeld ?_ ?_
  rotate_left
  · intro w' s0
    obtain ⟨q1, q2, q3, q4, q5, q6, q7⟩ := s0
    go_simp
    with_reducible rfl
  rotate_left
  · simp only [Act.put, List.setIfInBounds_toArray, List.set_cons_zero, List.set_cons_succ, i64_w, i32_w]
    rfl
  refine pure_ (i := 1) (N := some 107) (v := ?_) (a' := ?_) #[true, true, false, false, false, false, false, false] rfl rfl (by kernel_rfl) (fun _ _ _ h => h) (Or.inl ⟨by rfl, ?_⟩) ?_ ?_
  rotate_left
  · intro w'
    go_simp
    with_reducible rfl
  rotate_left
  · simp only [Act.put, List.setIfInBounds_toArray, List.set_cons_zero, List.set_cons_succ, i64_w, i32_w]
    rfl
  refine pure_ (i := 2) (N := some 108) (v := ?_) (a' := ?_) #[true, true, true, false, false, false, false, false] rfl rfl (by kernel_rfl) (fun _ _ _ h => h) (Or.inl ⟨by rfl, ?_⟩) ?_ ?_
  rotate_left
  · intro w'
    go_simp
    with_reducible rfl
  rotate_left
  · simp only [Act.put, List.setIfInBounds_toArray, List.set_cons_zero, List.set_cons_succ, i64_w, i32_w]
    rfl
  refine take_ (i := 3) (N := some 109) (v := ?_) (a' := ?_) #[true, true, true, true, false, false, false, false] rfl rfl (by kernel_rfl) (fun _ _ _ h => h) (Or.inl ⟨by rfl, ?_⟩) hHeld ?_ ?_
  rotate_left
  · intro w' s0
    obtain ⟨q1, q2, q3, q4, q5, q6, q7⟩ := s0
    go_simp
    with_reducible rfl
  rotate_left
  · simp only [Act.put, List.setIfInBounds_toArray, List.set_cons_zero, List.set_cons_succ, i64_w, i32_w]
    rfl
  refine pure_ (i := 4) (N := some 110) (v := ?_) (a' := ?_) #[true, true, true, true, true, false, false, false] rfl rfl (by kernel_rfl) (fun _ _ _ h => h) (Or.inl ⟨by rfl, ?_⟩) ?_ ?_
  rotate_left
  · intro w'
    go_simp
    with_reducible rfl
  rotate_left
  · simp only [Act.put, List.setIfInBounds_toArray, List.set_cons_zero, List.set_cons_succ, i64_w, i32_w]
    rfl
  refine pure_ (i := 5) (N := some 111) (v := ?_) (a' := ?_) #[true, true, true, true, true, true, false, false] rfl rfl (by kernel_rfl) (fun _ _ _ h => h) (Or.inl ⟨by rfl, ?_⟩) ?_ ?_
  rotate_left
  · intro w'
    go_simp
    with_reducible rfl
  rotate_left
  · simp only [Act.put, List.setIfInBounds_toArray, List.set_cons_zero, List.set_cons_succ, i64_w, i32_w]
    rfl
  refine one_ (i := 6) (N := some 16) #[true, true, true, true, true, true, true, false] rfl rfl (by kernel_rfl) (by decide) (fun K hK => ?_)
  refine value_ (v := pt W6.drew.heap.size) (w1 := W6.drew.alloc (.cells #[.int .i64 0, .string ⟨#[]⟩, .int .u32 0, .int .i64 0, .int .u32 0, .int .i64 0, .int .i64 0, .slice none 0 0] 107)) (by rfl) rfl (by go_simp) ?_
  refine hK.out _ _ ⟨cellOf (ba _) hHeld.1, cellOf (ba _) hHeld.2.1, cellOf (ba _) hHeld.2.2.1, cellOf (ba _) hHeld.2.2.2.1, cellOf (ba _) hHeld.2.2.2.2.1, cellOf (ba _) hHeld.2.2.2.2.2.1, cellOf (ba _) hHeld.2.2.2.2.2.2⟩ (fun hHeld => ?_)
  clear hK K
  refine norm_ (a' := ?_) ?_ ?_
  rotate_left
  · show Act.put _ (some 16) _ = _
    simp only [Act.put, List.setIfInBounds_toArray, List.set_cons_zero, List.set_cons_succ, i64_w, i32_w]
    rfl
  refine one_ (i := 7) (N := none) #[true, true, true, true, true, true, true, true] rfl rfl (by kernel_rfl) (by decide) (fun K hK => ?_)
  refine skip_ (w1 := W6.drew.alloc (.cells #[.int .i64 ((i : Int) + 1), .string name, .int .u32 (x3 + 1), .int .i64 (n : Int), .int .u32 (sumS data), .int .i64 d0, .int .i64 hh, .slice (some ⟨b2, 0, none⟩) (many n) c2] 107)) (by rfl) rfl (by go_simp) ?_
  refine hK.out _ _ ⟨cellOf (ba (w := W6.drew) _) hS1.1, cellOf (ba (w := W6.drew) _) hS1.2.1, cellOf (ba (w := W6.drew) _) hS1.2.2.1, cellOf (ba (w := W6.drew) _) hS1.2.2.2.1, cellOf (ba (w := W6.drew) _) hS1.2.2.2.2.1, cellOf (ba (w := W6.drew) _) hS1.2.2.2.2.2.1, cellOf (ba (w := W6.drew) _) hS1.2.2.2.2.2.2⟩ (fun hHeld => ?_)
  clear hK K
  refine done_ (by kernel_rfl) ?_
  have hb37 : Below w3.heap.size w3 (W6.drew.alloc (.cells #[.int .i64 ((i : Int) + 1), .string name, .int .u32 (x3 + 1), .int .i64 (n : Int), .int .u32 (sumS data), .int .i64 d0, .int .i64 hh, .slice (some ⟨b2, 0, none⟩) (many n) c2] 107)) := hb6.drew.alloc (by rw [World.size_drew]; omega) _
  have hK37 := (Kp.below (ts := fun _ => False) (own := own) hb3 0).trans (Kp.below (ts := fun _ => False) (own := tagged w own 0) hb37 0)
  have hB7 : Blk (W6.drew.alloc (.cells #[.int .i64 ((i : Int) + 1), .string name, .int .u32 (x3 + 1), .int .i64 (n : Int), .int .u32 (sumS data), .int .i64 d0, .int .i64 hh, .slice (some ⟨b2, 0, none⟩) (many n) c2] 107)) W6.drew.heap.size #[.int .i64 ((i : Int) + 1), .string name, .int .u32 (x3 + 1), .int .i64 (n : Int), .int .u32 (sumS data), .int .i64 d0, .int .i64 hh, .slice (some ⟨b2, 0, none⟩) (many n) c2] 107 := blkNew rfl
  have hR7 := (HN2.out.rd own (w0 := w) hb2.size).keep i64K_K (by decide) (Kp.below (ts := fun _ => False) (own := tagged w own 0) hb37 0) (fun q => q)
  have hO7 : tagged w3 (tagged w own 0) 0 W6.drew.heap.size = 0 := tagged_new (by rw [World.size_drew]; omega)
  have hD7 := HDA.out.keep u8K_K (by decide) hK37 (fun q => q)
  have hM7 := HH.out.keep hK37 (fun q => q) (fun _ _ _ q => q)
  clear hb37 hHeld hS1 hB6
  generalize (W6.drew.alloc (.cells #[.int .i64 ((i : Int) + 1), .string name, .int .u32 (x3 + 1), .int .i64 (n : Int), .int .u32 (sumS data), .int .i64 d0, .int .i64 hh, .slice (some ⟨b2, 0, none⟩) (many n) c2] 107)) = W7 at *
  generalize tagged w3 (tagged w own 0) 0 = o7 at *
  generalize W6.drew.heap.size = q7 at *
  have HNE : newE (S.ar i) ((i : Int) + 1) name (x3 + 1) data = ⟨⟨(i : Int) + 1, name, (x3 + 1), (n : Int), sumS data, d0⟩, hh, ds⟩ := by
    unfold newE
    rw [HDL.out, HFH'.out, HDS.out]
    have : ds.headD 0 = d0 := by
      have := HD0.out
      cases ds with
      | nil => simp at this
      | cons x l => simp at this; exact this
    rw [this]
    rfl
  have hd0m : d0 ∈ ds := List.mem_of_getElem? HD0.out
  have hd0b := HDM.out d0 hd0m
  have hs16 := HHA.out.s16
  have hhs := HHA.out.hs
  have hXok : HD.ok ⟨(i : Int) + 1, name, (x3 + 1), (n : Int), sumS data, d0⟩ := ⟨⟨by show (0 : Int) ≤ (i : Int) + 1; omega, by show (i : Int) + 1 < 256; omega⟩, hn16, ⟨by show (0 : Int) ≤ (x3 + 1); omega, by show (x3 + 1) < (4294967296 : Int); omega⟩, ⟨by show (0 : Int) ≤ (n : Int); omega, by show (n : Int) < 4294967296; omega⟩, xor_u32_bd _ _, ⟨by show (0 : Int) ≤ d0; omega, by show d0 < (65536 : Int); omega⟩⟩
  have hL := lay_ok W7 o7 t g gs ga S hM7 ht i hi hS HHA.out.fs hs16 (EP.mk ⟨⟨(i : Int) + 1, name, (x3 + 1), (n : Int), sumS data, d0⟩, hh, ds⟩ ⟨(some ⟨b2, 0, none⟩), (many n), c2⟩) hR7 hXok (fun y hy => ⟨by have := (HDM.out y hy).1; omega, (HDM.out y hy).2⟩) ⟨HHM.out.1, by have := HHM.out.2; show hh < ((S.ar i).sec : Int); omega⟩ A n c td data hD7 htd hu (by omega) HDSL.out (by have := HDSL.out; rw [hpe]; show 0 + ds.length + 2 < _; omega)
  rw [layS_lim _ _ _ _ hlim] at hL
  have hblim := layB_lim (S.ar i) ⟨⟨(i : Int) + 1, name, (x3 + 1), (n : Int), sumS data, d0⟩, hh, ds⟩ data S.b hlim
  have hbp := layB_pend (S.ar i) ⟨⟨(i : Int) + 1, name, (x3 + 1), (n : Int), sumS data, d0⟩, hh, ds⟩ data S.b
  have HPS : putS S i (some (k, ⟨⟨x1, x2, x3, x4, x5, x6⟩, x7, xs⟩)) name data = SV.setE (delS (SV.setB S (layB (S.ar i) ⟨⟨(i : Int) + 1, name, (x3 + 1), (n : Int), sumS data, d0⟩, hh, ds⟩ data S.b)) i k ⟨⟨x1, x2, x3, x4, x5, x6⟩, x7, xs⟩) i (((delS (SV.setB S (layB (S.ar i) ⟨⟨(i : Int) + 1, name, (x3 + 1), (n : Int), sumS data, d0⟩, hh, ds⟩ data S.b)) i k ⟨⟨x1, x2, x3, x4, x5, x6⟩, x7, xs⟩).ar i).ents ++ [⟨⟨(i : Int) + 1, name, (x3 + 1), (n : Int), sumS data, d0⟩, hh, ds⟩]) := by
    unfold putS
    simp only
    rw [HNE]
  have HX := Lib.hid HPS
  have hDe : ((delS (SV.setB S (layB (S.ar i) ⟨⟨(i : Int) + 1, name, (x3 + 1), (n : Int), sumS data, d0⟩, hh, ds⟩ data S.b)) i k ⟨⟨x1, x2, x3, x4, x5, x6⟩, x7, xs⟩).ar i).ents.length ≤ (S.ar i).ents.length := by
    show ((SV.setE (SV.setB (SV.setB S (layB (S.ar i) ⟨⟨(i : Int) + 1, name, (x3 + 1), (n : Int), sumS data, d0⟩, hh, ds⟩ data S.b)) _) i ((S.ar i).ents.eraseIdx k)).ar i).ents.length ≤ _
    unfold SV.setE
    dsimp only
    rw [if_pos rfl]
    exact List.length_eraseIdx_le _ _
  have HST := Lib.hid (fun (W : World) (o : Nat → Nat) (h : SvMem W o t g gs ga (SV.setB S (layB (S.ar i) ⟨⟨(i : Int) + 1, name, (x3 + 1), (n : Int), sumS data, d0⟩, hh, ds⟩ data S.b))) (hk : BOk (layB (S.ar i) ⟨⟨(i : Int) + 1, name, (x3 + 1), (n : Int), sumS data, d0⟩, hh, ds⟩ data S.b)) (hnn : (layB (S.ar i) ⟨⟨(i : Int) + 1, name, (x3 + 1), (n : Int), sumS data, d0⟩, hh, ds⟩ data S.b).n = S.b.n) => strike_ok W o t g gs ga (SV.setB S (layB (S.ar i) ⟨⟨(i : Int) + 1, name, (x3 + 1), (n : Int), sumS data, d0⟩, hh, ds⟩ data S.b)) h ht i hi hk (by show (S.ar i).frm + (S.ar i).sec ≤ (layB (S.ar i) ⟨⟨(i : Int) + 1, name, (x3 + 1), (n : Int), sumS data, d0⟩, hh, ds⟩ data S.b).n; rw [hnn]; exact HHA.out.fs) k ⟨⟨x1, x2, x3, x4, x5, x6⟩, x7, xs⟩ HGE.out HEO.out.1 HEO.out.2.1 (by show (layB (S.ar i) ⟨⟨(i : Int) + 1, name, (x3 + 1), (n : Int), sumS data, d0⟩, hh, ds⟩ data S.b).pend.length < _; rw [hbp]; decide) HHA.out.el)
  rw [strikeS_ok (SV.setB S (layB (S.ar i) ⟨⟨(i : Int) + 1, name, (x3 + 1), (n : Int), sumS data, d0⟩, hh, ds⟩ data S.b)) i k ⟨⟨x1, x2, x3, x4, x5, x6⟩, x7, xs⟩ (full_lim hblim)] at HST
  have hdd : (delS (SV.setB S (layB (S.ar i) ⟨⟨(i : Int) + 1, name, (x3 + 1), (n : Int), sumS data, d0⟩, hh, ds⟩ data S.b)) i k ⟨⟨x1, x2, x3, x4, x5, x6⟩, x7, xs⟩).dead = false := hd
  have hDar : ((delS (SV.setB S (layB (S.ar i) ⟨⟨(i : Int) + 1, name, (x3 + 1), (n : Int), sumS data, d0⟩, hh, ds⟩ data S.b)) i k ⟨⟨x1, x2, x3, x4, x5, x6⟩, x7, xs⟩).ar i).ten = (S.ar i).ten := by unfold delS SV.setE; dsimp only; rw [if_pos rfl]; rfl
  generalize hDD : (delS (SV.setB S (layB (S.ar i) ⟨⟨(i : Int) + 1, name, (x3 + 1), (n : Int), sumS data, d0⟩, hh, ds⟩ data S.b)) i k ⟨⟨x1, x2, x3, x4, x5, x6⟩, x7, xs⟩) = D at *
  clear HPS hDD
  generalize hLB : (layB (S.ar i) ⟨⟨(i : Int) + 1, name, (x3 + 1), (n : Int), sumS data, d0⟩, hh, ds⟩ data S.b) = lb at *
  clear hLB HNE hDar hpe hlim hblim hbp
  have HL := Lib.hid hL
  have HOK := Lib.hid hXok
  clear hL hXok
  have e0 := Blk.cell (i := 0) hB7 rfl
  have e1 := Blk.cell (i := 1) hB7 rfl
  have e2 := Blk.cell (i := 2) hB7 rfl
  have e3 := Blk.cell (i := 3) hB7 rfl
  have e4 := Blk.cell (i := 4) hB7 rfl
  have e5 := Blk.cell (i := 5) hB7 rfl
  have e6 := Blk.cell (i := 6) hB7 rfl
  have e7 := Blk.cell (i := 7) hB7 rfl
  go_upto_region 21 with (first | (go_at_call 56; refine Calls.mono HL.out ?_; rintro e w8 ⟨rfl, l1, l2, o8, l3, l4⟩; simp only [if_true]) | (go_at_call 57; refine Calls.mono (HST.out w8 o8 l3 l1 l2) ?_; rintro e w9 ⟨rfl, l5, l6, o9, l7, l8⟩; simp only [if_true]))
  have HMC := Lib.hid l7
  have hkc : Kp (k20 t) W7 o7 w9 o9 := (l4.mono (fun q h => ⟨by rcases h with h | h | h <;> omega, by rcases h with h | h | h <;> omega⟩)).trans l8
  have hokb : BOk D.b := l5
  have hnb : D.b.n = S.b.n := l6.trans l2
  clear l1 l2 l3 l4 l5 l6 l7 l8
  obtain ⟨⟨zA2, zn2, zc2⟩, ps2, hg2, hb2x, hz2, hes2⟩ := HMC.out.ar i hi
  have hpn : ps2.length < 2 ^ 30 := by
    have h1 : ps2.length = (D.ar i).ents.length := by rw [← hes2.1, List.length_map]
    have := HHA.out.el
    omega
  have hq8 := (hB7.keep hkc (by rw [hO7]; intro h; have := h.1; omega)).1
  have hr8 := hR7.keep i64K_K (by decide) hkc (by intro h; have := h.1; omega)
  have hS2 : w9.cell? ⟨ga i, 4, none⟩ = some (.slice zA2 zn2 zc2) ∧ w9.cell? ⟨q7, 0, none⟩ = some (.int .i64 ((i : Int) + 1)) ∧ w9.cell? ⟨q7, 1, none⟩ = some (.string name) ∧ w9.cell? ⟨q7, 2, none⟩ = some (.int .u32 (x3 + 1)) ∧ w9.cell? ⟨q7, 3, none⟩ = some (.int .i64 (n : Int)) ∧ w9.cell? ⟨q7, 4, none⟩ = some (.int .u32 (sumS data)) ∧ w9.cell? ⟨q7, 5, none⟩ = some (.int .i64 d0) ∧ w9.cell? ⟨q7, 6, none⟩ = some (.int .i64 hh) ∧ w9.cell? ⟨q7, 7, none⟩ = some (.slice (some ⟨b2, 0, none⟩) (many n) c2) :=
    ⟨Blk.cell (i := 4) hb2x rfl, Blk.cell (i := 0) hq8 rfl, Blk.cell (i := 1) hq8 rfl, Blk.cell (i := 2) hq8 rfl, Blk.cell (i := 3) hq8 rfl, Blk.cell (i := 4) hq8 rfl, Blk.cell (i := 5) hq8 rfl, Blk.cell (i := 6) hq8 rfl, Blk.cell (i := 7) hq8 rfl⟩
  have HZ2 := Lib.hid hz2
  have HES := Lib.hid hes2
  have HB2 := Lib.hid hb2x
  have HG2 := Lib.hid hg2
  have HR8 := Lib.hid hr8
  have HKC := Lib.hid hkc
  have HK37 := Lib.hid hK37
  clear e0 e1 e2 e3 e4 e5 e6 e7
  clear hz2 hes2 hb2x hg2 hr8 hkc hq8 hR7 hD7 hM7 hB7 hK37
  refine start_ (n := 11) (S := fun w' => w'.cell? ⟨ga i, 4, none⟩ = some (.slice zA2 zn2 zc2) ∧ w'.cell? ⟨q7, 0, none⟩ = some (.int .i64 ((i : Int) + 1)) ∧ w'.cell? ⟨q7, 1, none⟩ = some (.string name) ∧ w'.cell? ⟨q7, 2, none⟩ = some (.int .u32 (x3 + 1)) ∧ w'.cell? ⟨q7, 3, none⟩ = some (.int .i64 (n : Int)) ∧ w'.cell? ⟨q7, 4, none⟩ = some (.int .u32 (sumS data)) ∧ w'.cell? ⟨q7, 5, none⟩ = some (.int .i64 d0) ∧ w'.cell? ⟨q7, 6, none⟩ = some (.int .i64 hh) ∧ w'.cell? ⟨q7, 7, none⟩ = some (.slice (some ⟨b2, 0, none⟩) (many n) c2)) (ds := [7, 10]) #[false, false, false, false, false, false, false, false, false, false, false] (by kernel_rfl) rfl rfl hS2 (fun hHeld => ?_)
  refine pure_ (i := 0) (N := some 129) (v := ?_) (a' := ?_) #[true, false, false, false, false, false, false, false, false, false, false] rfl rfl (by kernel_rfl) (fun _ _ _ h => h) (Or.inl ⟨by rfl, ?_⟩) ?_ ?_
  rotate_left
  · intro w'
    go_simp
    with_reducible rfl
  rotate_left
  · simp only [Act.put, List.setIfInBounds_toArray, List.set_cons_zero, List.set_cons_succ, i64_w, i32_w]
    rfl
  refine pure_ (i := 1) (N := some 130) (v := ?_) (a' := ?_) #[true, true, false, false, false, false, false, false, false, false, false] rfl rfl (by kernel_rfl) (fun _ _ _ h => h) (Or.inl ⟨by rfl, ?_⟩) ?_ ?_
  rotate_left
  · intro w'
    go_simp
    with_reducible rfl
  rotate_left
  · simp only [Act.put, List.setIfInBounds_toArray, List.set_cons_zero, List.set_cons_succ, i64_w, i32_w]
    rfl
  refine pure_ (i := 2) (N := some 131) (v := ?_) (a' := ?_) #[true, true, true, false, false, false, false, false, false, false, false] rfl rfl (by kernel_rfl) (fun _ _ _ h => h) (Or.inl ⟨by rfl, ?_⟩) ?_ ?_
  rotate_left
  · intro w'
    go_simp
    with_reducible rfl
  rotate_left
  · simp only [Act.put, List.setIfInBounds_toArray, List.set_cons_zero, List.set_cons_succ, i64_w, i32_w]
    rfl
  refine pure_ (i := 3) (N := some 132) (v := ?_) (a' := ?_) #[true, true, true, true, false, false, false, false, false, false, false] rfl rfl (by kernel_rfl) (fun _ _ _ h => h) (Or.inl ⟨by rfl, ?_⟩) ?_ ?_
  rotate_left
  · intro w'
    go_simp
    with_reducible rfl
  rotate_left
  · simp only [Act.put, List.setIfInBounds_toArray, List.set_cons_zero, List.set_cons_succ, i64_w, i32_w]
    rfl
  refine take_ (i := 4) (N := some 133) (v := ?_) (a' := ?_) #[true, true, true, true, true, false, false, false, false, false, false] rfl rfl (by kernel_rfl) (fun _ _ _ h => h) (Or.inl ⟨by rfl, ?_⟩) hHeld ?_ ?_
  rotate_left
  · intro w' s0
    obtain ⟨q1, q2, q3, q4, q5, q6, q7x, q8, q9⟩ := s0
    go_simp
    with_reducible rfl
  rotate_left
  · simp only [Act.put, List.setIfInBounds_toArray, List.set_cons_zero, List.set_cons_succ, i64_w, i32_w]
    rfl
  refine take_ (i := 5) (N := some 134) (v := ?_) (a' := ?_) #[true, true, true, true, true, true, false, false, false, false, false] rfl rfl (by kernel_rfl) (fun _ _ _ h => h) (Or.inl ⟨by rfl, ?_⟩) hHeld ?_ ?_
  rotate_left
  · intro w' s0
    obtain ⟨q1, q2, q3, q4, q5, q6, q7x, q8, q9⟩ := s0
    go_simp
    with_reducible rfl
  rotate_left
  · simp only [Act.put, List.setIfInBounds_toArray, List.set_cons_zero, List.set_cons_succ, i64_w, i32_w]
    rfl
  refine one_ (i := 6) (N := some 135) #[true, true, true, true, true, true, true, false, false, false, false] rfl rfl (by kernel_rfl) (by decide) (fun K hK => ?_)
  refine value_ (v := .slice (some ⟨w9.drew.heap.size, 0, none⟩) 1 1) (w1 := w9.drew.alloc (.cells #[.int .i64 ((i : Int) + 1), .string name, .int .u32 (x3 + 1), .int .i64 (n : Int), .int .u32 (sumS data), .int .i64 d0, .int .i64 hh, .slice (some ⟨b2, 0, none⟩) (many n) c2] 107)) (by rfl) rfl (by go_simp) ?_
  refine hK.out _ _ ⟨cellOf (ba _) hHeld.1, cellOf (ba _) hHeld.2.1, cellOf (ba _) hHeld.2.2.1, cellOf (ba _) hHeld.2.2.2.1, cellOf (ba _) hHeld.2.2.2.2.1, cellOf (ba _) hHeld.2.2.2.2.2.1, cellOf (ba _) hHeld.2.2.2.2.2.2.1, cellOf (ba _) hHeld.2.2.2.2.2.2.2.1, cellOf (ba _) hHeld.2.2.2.2.2.2.2.2⟩ (fun hHeld => ?_)
  clear hK K
  refine norm_ (a' := ?_) ?_ ?_
  rotate_left
  · show Act.put _ (some 135) _ = _
    simp only [Act.put, List.setIfInBounds_toArray, List.set_cons_zero, List.set_cons_succ, i64_w, i32_w]
    rfl
  refine last_ (i := 7) (N := some 136) #[true, true, true, true, true, true, true, true, false, false, false] rfl rfl (by kernel_rfl) (by decide) (fun K hK => ?_)
  refine Kd.R_append_step enK (w0 := w9.drew) 0 (by rfl) (.tmp 133) (.tmp 135) 100 107 (.agg #[.int .i64 0, .string ⟨#[]⟩, .int .u32 0, .int .i64 0, .int .u32 0, .int .i64 0, .int .i64 0, .slice none 0 0]) 88 rfl Tryz.underlying100 info107 rfl (by decide) (by decide) (Sl.mk zA2 zn2 zc2).enc ps2 (EP.mk ⟨⟨(i : Int) + 1, name, (x3 + 1), (n : Int), sumS data, d0⟩, hh, ds⟩ ⟨(some ⟨b2, 0, none⟩), (many n), c2⟩) [.int .i64 ((i : Int) + 1), .string name, .int .u32 (x3 + 1), .int .i64 (n : Int), .int .u32 (sumS data), .int .i64 d0, .int .i64 hh, .slice (some ⟨b2, 0, none⟩) (many n) c2] (fun k => tagged w9.drew o9 (t + 12 + i) k = t + 12 + i) (fun _ => False) rfl rfl rfl (fun _ hk => hk.elim) (fun q hq => tagged_new (show w9.drew.heap.size ≤ q from hq)) (Ow.alloc (w := w9.drew) HZ2.out (Below.refl _ _)) (Below.refl 0 _) (Nat.zero_le _) (by omega) ?_
  intro v3 wa ho hb hg3 hat
  obtain ⟨s3, rfl, ho', hk'⟩ := Ow.pushed (w := w9.drew) HZ2.out (Below.refl _ _) ho hg3
  clear ho hb hg3 hat
  refine hK.out _ _ ?_
  clear hK K
  refine norm_ (a' := ?_) ?_ ?_
  rotate_left
  · show Act.put _ (some 136) _ = _
    simp only [Act.put, List.setIfInBounds_toArray, List.set_cons_zero, List.set_cons_succ, i64_w, i32_w]
    rfl
  refine pure_ (i := 8) (N := some 137) (v := ?_) (a' := ?_) #[true, true, true, true, true, true, true, true, true, false, false] rfl rfl (by kernel_rfl) (fun _ _ _ h => h) (Or.inl ⟨by rfl, ?_⟩) ?_ ?_
  rotate_left
  · intro w'
    go_simp
    with_reducible rfl
  rotate_left
  · simp only [Act.put, List.setIfInBounds_toArray, List.set_cons_zero, List.set_cons_succ, i64_w, i32_w]
    rfl
  refine pure_ (i := 9) (N := some 138) (v := ?_) (a' := ?_) #[true, true, true, true, true, true, true, true, true, true, false] rfl rfl (by kernel_rfl) (fun _ _ _ h => h) (Or.inl ⟨by rfl, ?_⟩) ?_ ?_
  rotate_left
  · intro w'
    go_simp
    with_reducible rfl
  rotate_left
  · simp only [Act.put, List.setIfInBounds_toArray, List.set_cons_zero, List.set_cons_succ, i64_w, i32_w]
    rfl
  refine last_ (i := 10) (N := none) #[true, true, true, true, true, true, true, true, true, true, true] rfl rfl (by kernel_rfl) (by decide) (fun K hK => ?_)
  have hbz := Blk.keep (w := w9.drew) HB2.out hk' (by rw [HG2.out]; omega)
  have c3 := Blk.cell (i := 4) hbz.1 rfl
  have z3 := Blk.frozen (i := 4) hbz.1
  refine skip_ (w1 := wa.setCell ⟨ga i, 4, none⟩ s3.enc) (by rfl) rfl (by simp only [Sl.enc]; go_simp) ?_
  refine hK.out _ _ ?_
  clear hK K
  refine done_ (by kernel_rfl) ?_
  have HEE := Lib.hid (entry_endD (S := D) (x := (EP.mk ⟨⟨(i : Int) + 1, name, (x3 + 1), (n : Int), sumS data, d0⟩, hh, ds⟩ ⟨(some ⟨b2, 0, none⟩), (many n), c2⟩)) HMC.out ht i hi HG2.out HB2.out HES.out HR8.out ho' hk')
  clear ho' hk' hbz c3 z3 hHeld hS2
  have HDN := Lib.hid (done_nil _ _ t g gs ga _ HEE.out.1 ht hdd)
  go_wp2_with (go_at_call 58; refine HDN.out.mono ?_; rintro e wb ⟨rfl, ob, d1, d2⟩)
  go_ret
  rw [HX.out]
  exact ⟨rfl, hokb, hnb, ob, d1, (((HK37.out.mono (fun _ h => h.elim)).trans HKC.out).trans HEE.out.2).trans d2⟩
end Go.Proofs.YtmofiicjaldmiaaGreatDoor.SwF
