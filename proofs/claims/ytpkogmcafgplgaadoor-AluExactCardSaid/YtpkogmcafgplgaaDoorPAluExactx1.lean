-- written by a program of this session (printx) out of the print of the given program
import Derived.Test.YtpkogmcafgplgaaDoorPAluExactx0
namespace Go.Proofs.YtpkogmcafgplgaaDoor.PAluExact
open Go.RowKit Go.Proofs.YtpkogmcafgplgaaDoorW.PrintWords Go.Proofs.YtpkogmcafgplgaaDoorW.PrintLast Go.Proofs.YtpkogmcafgplgaaDoorW.PrintMore
attribute [local go_sem] max2_int min2_int max_two min_two max_three min_three max_four min_four   -- for this text's walks alone
set_option linter.unusedVariables false
set_option linter.unusedSimpArgs false

/-! ### arcadelaw1_pick: function 5 -/
def arcadelaw1_pick.f (a0 : Int) (a1 : Int) : Option (Int) := if a0 < 0 then (if a1 = 0 then (none) else (some (Int.tmod (wrap64 (-(wrap64 (a0 + 1)))) a1))) else (if a1 = 0 then (none) else (some (Int.tmod a0 a1)))
set_option maxHeartbeats 8000000 in
set_option maxRecDepth 100000 in
theorem arcadelaw1_pick.calls (a0 : Int) (a1 : Int) (r : Int) (w : World) (h : arcadelaw1_pick.f a0 a1 = some r) :
    Calls Tryd.prog 5 #[.int .i64 a0, .int .i64 a1] w fun e w' => e = .returned (.int .i64 r) ∧ Drawn0 w w' := by
  have H : (if a0 < 0 then (if a1 = 0 then (none) else (some (Int.tmod (wrap64 (-(wrap64 (a0 + 1)))) a1))) else (if a1 = 0 then (none) else (some (Int.tmod a0 a1)))) = some r := h
  clear h
  by_cases c3 : a0 < 0
  · rw [if_pos c3] at H
    have c3b0 : decide (a0 < 0) = true := decide_eq_true c3
    clear c3
    by_cases c4 : a1 = 0
    · rw [if_pos c4] at H
      exact absurd H (by simp)
    · rw [if_neg c4] at H
      have c4b0 : (a1 == 0) = false := beq_eq_false_iff_ne.mpr c4
      have c4b1 : (a1 != 0) = true := bne_iff_ne.mpr c4
      obtain rfl := Option.some.inj H
      go_enter Tryd.func5, Tryd.ntmps5
      go_wp2
      go_ret
      exact ⟨by first | rfl | (simp; done) | (simp [*]; done), by repeat (first | exact Drawn0.refl _ | apply Drawn0.step)⟩
  · rw [if_neg c3] at H
    have c3b0 : decide (a0 < 0) = false := decide_eq_false c3
    clear c3
    by_cases c5 : a1 = 0
    · rw [if_pos c5] at H
      exact absurd H (by simp)
    · rw [if_neg c5] at H
      have c5b0 : (a1 == 0) = false := beq_eq_false_iff_ne.mpr c5
      have c5b1 : (a1 != 0) = true := bne_iff_ne.mpr c5
      obtain rfl := Option.some.inj H
      go_enter Tryd.func5, Tryd.ntmps5
      go_wp2
      go_ret
      exact ⟨by first | rfl | (simp; done) | (simp [*]; done), by repeat (first | exact Drawn0.refl _ | apply Drawn0.step)⟩


/-! ### alu_Set: function 6 -/
-- x


/-! ### alu_Res: function 7 -/
-- x


/-! ### alu_Bit: function 8 -/
-- x


/-! ### alu_Arith: function 13 -/
def alu_Arith.f (a0 : Int) (a1 : Int) (a2 : Int) (a3 : Int) : Option (Int × Int) := if 0 ≤ a1 ∧ a1 ≤ 255 ∧ 0 ≤ a2 ∧ a2 ≤ 255 ∧ 0 ≤ a3 ∧ a3 ≤ 255 then some (Go.Proofs.YtpkogmcafgplgaaDoor.AluC.arithV a0 a1 a2 a3, Go.Proofs.YtpkogmcafgplgaaDoor.AluC.arithF a0 a1 a2 a3) else none
theorem alu_Arith.calls (a0 : Int) (a1 : Int) (a2 : Int) (a3 : Int) (r1 : Int) (r2 : Int) (w : World) (h : alu_Arith.f a0 a1 a2 a3 = some (r1, r2)) :
    Calls Tryd.prog 13 #[.int .i64 a0, .int .u8 a1, .int .u8 a2, .int .u8 a3] w fun e w' => e = .returned (.tuple #[.int .u8 r1, .int .u8 r2]) ∧ Drawn0 w w' := by
  by_cases c : 0 ≤ a1 ∧ a1 ≤ 255 ∧ 0 ≤ a2 ∧ a2 ≤ 255 ∧ 0 ≤ a3 ∧ a3 ≤ 255
  · simp only [alu_Arith.f, if_pos c] at h
    injection h with h
    injection h with h1 h2
    subst h1 h2
    obtain ⟨c1, d1, c2, d2, c3, d3⟩ := c
    refine (Go.Proofs.YtpkogmcafgplgaaDoor.AluC.arith_any a0 a1 a2 a3 w c1 d1 c2 d2 c3 d3).mono ?_
    rintro e w' ⟨rfl, rfl⟩
    exact ⟨rfl, Drawn0.refl _⟩
  · simp only [alu_Arith.f, if_neg c] at h
    cases h

/-! ### arcaderef1_bits: function 29 -/
def arcaderef1_bits.l0 : Nat → Int → Int → List Bool → Int → Option (List Bool)
  | 0, _, _, _, _ => none
  | k + 1, x0, x1, x5, x6 => if x6 < x1 then (if x5.length < 140737488355328 then (arcaderef1_bits.l0 k (wrap64 (Int.tdiv x0 2)) x1 (x5 ++ [((Int.tmod x0 2) == 1)]) (wrap64 (x6 + 1))) else (none)) else (some x5)
def arcaderef1_bits.f (k : Nat) (a0 : Int) (a1 : Int) : Option (List Bool) := arcaderef1_bits.l0 k a0 a1 ([] : List Bool) 0
theorem arcaderef1_bits.mono_l : ∀ k, (∀ y0 y1 y2 y3, LeO (arcaderef1_bits.l0 k y0 y1 y2 y3) (arcaderef1_bits.l0 (k + 1) y0 y1 y2 y3))
  | 0 => fun _ _ _ _ r h => by simp [arcaderef1_bits.l0] at h
  | k + 1 => by
    have ih0 := arcaderef1_bits.mono_l k
    · intro y0 y1 y2 y3
      unfold arcaderef1_bits.l0
      repeat' first
      | (with_reducible exact ih0 _ _ _ _)
      | (with_reducible exact LeO.refl _)
      | (with_reducible exact LeO.none _)
      | (with_reducible refine LeO.ite ?_ ?_)
      | (with_reducible refine LeO.bind ?_ (fun _ => ?_))
      | exact ih0 _ _ _ _
      | exact LeO.none _
      | refine LeO.ite ?_ ?_
      | refine LeO.bind ?_ (fun _ => ?_)
theorem arcaderef1_bits.mono : ∀ a0 a1 k, LeO (arcaderef1_bits.f k a0 a1) (arcaderef1_bits.f (k + 1) a0 a1) := by
  intro a0 a1 k
  have ih0 := arcaderef1_bits.mono_l k
  unfold arcaderef1_bits.f
  repeat' first
      | (with_reducible exact ih0 _ _ _ _)
      | (with_reducible exact LeO.refl _)
      | (with_reducible exact LeO.none _)
      | (with_reducible refine LeO.ite ?_ ?_)
      | (with_reducible refine LeO.bind ?_ (fun _ => ?_))
      | exact ih0 _ _ _ _
      | exact LeO.none _
      | refine LeO.ite ?_ ?_
      | refine LeO.bind ?_ (fun _ => ?_)
set_option maxHeartbeats 8000000 in
set_option maxRecDepth 100000 in
theorem arcaderef1_bits.calls (k : Nat) (a0 : Int) (a1 : Int) (r : List Bool) (w : World) (h : arcaderef1_bits.f k a0 a1 = some r) :
    Calls Tryd.prog 29 #[.int .i64 a0, .int .i64 a1] w fun e w' => ∃ v0_ : Value, e = .returned (v0_) ∧ Kd.R Kd.bool 4 w' w.heap.size (fun _ => True) v0_ r ∧ Below w.heap.size w w' := by
  have HB := Aside0.mk (Below.refl w.heap.size w)
  have H : (arcaderef1_bits.l0 k a0 a1 ([] : List Bool) 0) = some r := h
  clear h
  have H' := Aside0.mk H
  clear H
  go_enter Tryd.func29, Tryd.ntmps29
  go_wp2
  go_loopg [0, 5, 6] k (fun kq v0 v5 v6 w' => ∃ (x0_1 : Int) (x5_1 : List Bool) (x6_1 : Int), v0 = .int .i64 x0_1 ∧ v6 = .int .i64 x6_1 ∧ Aside0 (arcaderef1_bits.l0 kq x0_1 a1 x5_1 x6_1 = some r) ∧ Aside0 (kq ≤ k) ∧ Aside0 (Kd.R Kd.bool 4 w' w.heap.size (fun _ => True) v5 x5_1) ∧ Aside0 (Below w.heap.size w w'))
  case atStart => exact ⟨(a0), (([] : List Bool)), (0), (by first | rfl | (simp; done) | (simp [*]; done)), (by first | rfl | (simp; done) | (simp [*]; done)), H', ⟨Nat.le_refl _⟩, ⟨by first | exact Kd.R_nil _ _ _ _ _ | exact Kd.N_nil _ _ _ _ _ | exact Kd.V_nil _ _ _ _ _ | exact Kd.Q_nil _ _ _ _ _ | exact Kd.S_nil _ _ _ _ _⟩, ⟨by repeat (first | (with_reducible first | exact HB.out | apply below_alloc | apply pw_below_drewN | apply below_drew1) | exact HB.out)⟩⟩
  case round =>
    clear H'
    try clear c2
    try clear p2
    obtain ⟨x0_1, x5_1, x6_1, rfl, rfl, HA, HK1, HO_5, HB⟩ := hrel
    cases gk with
    | zero => exact absurd HA.out (by simp [arcaderef1_bits.l0])
    | succ k1 =>
      have H := HA.out
      clear HA
      simp only [arcaderef1_bits.l0] at H
      by_cases c3 : x6_1 < a1
      · rw [if_pos c3] at H
        have c3b0 : decide (x6_1 < a1) = true := decide_eq_true c3
        clear c3
        by_cases c4 : x5_1.length < 140737488355328
        · rw [if_pos c4] at H
          have LMc4 := Aside0.mk c4
          clear c4
          obtain ⟨y101, hy101⟩ : ∃ y_ : List Bool, y_ = (x5_1 ++ [((Int.tmod x0_1 2) == 1)]) := ⟨_, rfl⟩
          replace H : (arcaderef1_bits.l0 k1 (wrap64 (Int.tdiv x0_1 2)) a1 y101 (wrap64 (x6_1 + 1))) = some r := by first | (rw [hy101]; with_reducible exact H) | (have H2_ := (Option.bind_some _ _).symm.trans H; rw [hy101]; with_reducible exact H2_) | (have H2_ := (Option.bind_some _ _).symm.trans H; with_reducible exact H2_) | with_reducible exact H | (rw [hy101]; exact H) | exact H
          have Ny101 := Aside0.mk hy101
          clear hy101
          have H' := Aside0.mk H
          clear H
          go_wp2_with (first | ((with_reducible refine gate_builtin (b := .append) (xs := #[.tmp 12, .tmp 16]) rfl ?_); at_builtin; refine Kd.R_append Kd.bool (w0 := w) w.heap.size rfl (.tmp 12) (.tmp 16) 45 4 (.bool false) 1 rfl Tryd.underlying45 info4 rfl (by decide) (by omega) u5 x5_1 ((Int.tmod x0_1 2) == 1) [.bool ((Int.tmod x0_1 2) == 1)] (fun _ => True) (fun _ => False) rfl rfl ?aP (fun _ hk => hk.elim) ?aF ?aO ?aB ?aS ?aL ?_; (case aP => exact rfl); (case aB => exact (by repeat (first | (with_reducible first | exact HB.out | apply below_alloc | apply pw_below_drewN | apply below_drew1) | exact HB.out))); (case aF => exact (fun _ _ => trivial)); (case aO => exact (by (with_reducible repeat (first | apply Kd.R_alloc | apply Kd.R_drewN | apply Kd.R_drew)); exact HO_5.out)); (case aS => exact (below_size (by repeat (first | (with_reducible first | exact HB.out | apply below_alloc | apply pw_below_drewN | apply below_drew1) | exact HB.out)))); (case aL => have := LMc4.out; omega); intro v102 w5 ho hb hg hat; rw [← Ny101.out] at ho; have n0_ := Aside0.mk (hb); have n1_ := Aside0.mk (ho); clear HB; clear HO_5; have HB := n0_; have HO103 := n1_; clear n0_ n1_; clear ho hb hg hat))
          go_roundg k1
          case measure => have := HK1.out; omega
          case rel => exact ⟨(wrap64 (Int.tdiv x0_1 2)), (y101), (wrap64 (x6_1 + 1)), (by first | rfl | (simp; done) | (simp [*]; done)), (by first | rfl | (simp; done) | (simp [*]; done)), H', ⟨by have := HK1.out; omega⟩, ⟨by (with_reducible repeat (first | apply Kd.R_alloc | apply Kd.R_drewN | apply Kd.R_drew)); exact HO103.out⟩, ⟨by repeat (first | (with_reducible first | exact HB.out | apply below_alloc | apply pw_below_drewN | apply below_drew1) | exact HB.out)⟩⟩
        · rw [if_neg c4] at H
          exact absurd H (by simp)
      · rw [if_neg c3] at H
        have c3b0 : decide (x6_1 < a1) = false := decide_eq_false c3
        clear c3
        obtain rfl := Option.some.inj H
        go_wp2
        go_ret
        exact ⟨_, by first | rfl | (simp [errW_none, errW_some] <;> rfl) | (simp [*, errW_none, errW_some] <;> rfl), by (with_reducible repeat (first | apply Kd.R_alloc | apply Kd.R_drewN | apply Kd.R_drew)); exact HO_5.out, by repeat (first | (with_reducible first | exact HB.out | apply below_alloc | apply pw_below_drewN | apply below_drew1) | exact HB.out)⟩

/-! ### arcaderef1_has: function 30 -/
def arcaderef1_has.f (a0 : Int) (a1 : Int) : Option (Bool) := if a1 = 0 then (none) else (some ((((Int.tdiv a0 a1) % 256) % 2) == 1))
set_option maxHeartbeats 8000000 in
set_option maxRecDepth 100000 in
theorem arcaderef1_has.calls (a0 : Int) (a1 : Int) (r : Bool) (w : World) (h : arcaderef1_has.f a0 a1 = some r) :
    Calls Tryd.prog 30 #[.int .u8 a0, .int .u8 a1] w fun e w' => e = .returned (.bool r) ∧ Drawn0 w w' := by
  have H : (if a1 = 0 then (none) else (some ((((Int.tdiv a0 a1) % 256) % 2) == 1))) = some r := h
  clear h
  by_cases c3 : a1 = 0
  · rw [if_pos c3] at H
    exact absurd H (by simp)
  · rw [if_neg c3] at H
    have c3b0 : (a1 == 0) = false := beq_eq_false_iff_ne.mpr c3
    have c3b1 : (a1 != 0) = true := bne_iff_ne.mpr c3
    obtain rfl := Option.some.inj H
    go_enter Tryd.func30, Tryd.ntmps30
    go_wp2
    go_ret
    exact ⟨by first | rfl | (simp; done) | (simp [*]; done), by repeat (first | exact Drawn0.refl _ | apply Drawn0.step)⟩

/-! ### arcaderef1_both: function 31 -/
mutual
def arcaderef1_both.l0 : Nat → List Bool → List Bool → Bool → List Bool → List Bool → Int → Option (List Bool × List Bool)
  | 0, _, _, _, _, _, _ => none
  | k + 1, x0, x1, x2, x8, x9, x10 => if x10 < (x0.length : Int) then (if 0 ≤ x10 then (if rdOf false x0 x10 = true then (arcaderef1_both.j1 k x0 x1 x2 x8 x9 x10 (0 + 1)) else (arcaderef1_both.j1 k x0 x1 x2 x8 x9 x10 0)) else (none)) else (some (x8, x9))
def arcaderef1_both.j1 : Nat → List Bool → List Bool → Bool → List Bool → List Bool → Int → Int → Option (List Bool × List Bool)
  | 0, _, _, _, _, _, _, _ => none
  | k + 1, x0, x1, x2, x8, x9, x10, x11 => if 0 ≤ x10 then (if x10 < (x1.length : Int) then (if rdOf false x1 x10 = true then (if x2 = true then (if x8.length < 140737488355328 then (if x9.length < 140737488355328 then (arcaderef1_both.l0 k x0 x1 (decide ((wrap64 ((wrap64 (x11 + 1)) + 1)) > 1)) (x8 ++ [((Int.tmod (wrap64 ((wrap64 (x11 + 1)) + 1)) 2) == 1)]) (x9 ++ [decide ((wrap64 ((wrap64 (x11 + 1)) + 1)) > 1)]) (wrap64 (x10 + 1))) else (none)) else (none)) else (if x8.length < 140737488355328 then (if x9.length < 140737488355328 then (arcaderef1_both.l0 k x0 x1 (decide ((wrap64 (x11 + 1)) > 1)) (x8 ++ [((Int.tmod (wrap64 (x11 + 1)) 2) == 1)]) (x9 ++ [decide ((wrap64 (x11 + 1)) > 1)]) (wrap64 (x10 + 1))) else (none)) else (none))) else (if x2 = true then (if x8.length < 140737488355328 then (if x9.length < 140737488355328 then (arcaderef1_both.l0 k x0 x1 (decide ((wrap64 (x11 + 1)) > 1)) (x8 ++ [((Int.tmod (wrap64 (x11 + 1)) 2) == 1)]) (x9 ++ [decide ((wrap64 (x11 + 1)) > 1)]) (wrap64 (x10 + 1))) else (none)) else (none)) else (if x8.length < 140737488355328 then (if x9.length < 140737488355328 then (arcaderef1_both.l0 k x0 x1 (decide (x11 > 1)) (x8 ++ [((Int.tmod x11 2) == 1)]) (x9 ++ [decide (x11 > 1)]) (wrap64 (x10 + 1))) else (none)) else (none)))) else (none)) else (none)
end
def arcaderef1_both.f (k : Nat) (l0 : List Bool) (l1 : List Bool) (a2 : Bool) : Option (List Bool × List Bool) := arcaderef1_both.l0 k l0 l1 a2 ([] : List Bool) ([] : List Bool) 0
theorem arcaderef1_both.mono_l : ∀ k, (∀ y0 y1 y2 y3 y4 y5, LeO (arcaderef1_both.l0 k y0 y1 y2 y3 y4 y5) (arcaderef1_both.l0 (k + 1) y0 y1 y2 y3 y4 y5)) ∧ (∀ y0 y1 y2 y3 y4 y5 y6, LeO (arcaderef1_both.j1 k y0 y1 y2 y3 y4 y5 y6) (arcaderef1_both.j1 (k + 1) y0 y1 y2 y3 y4 y5 y6))
  | 0 => ⟨fun _ _ _ _ _ _ r h => by simp [arcaderef1_both.l0] at h, fun _ _ _ _ _ _ _ r h => by simp [arcaderef1_both.j1] at h⟩
  | k + 1 => by
    obtain ⟨ih0, ih1⟩ := arcaderef1_both.mono_l k
    refine ⟨?_, ?_⟩
    · intro y0 y1 y2 y3 y4 y5
      unfold arcaderef1_both.l0
      repeat' first
      | (with_reducible exact ih0 _ _ _ _ _ _)
      | (with_reducible exact ih1 _ _ _ _ _ _ _)
      | (with_reducible exact LeO.refl _)
      | (with_reducible exact LeO.none _)
      | (with_reducible refine LeO.ite ?_ ?_)
      | (with_reducible refine LeO.bind ?_ (fun _ => ?_))
      | exact ih0 _ _ _ _ _ _
      | exact ih1 _ _ _ _ _ _ _
      | exact LeO.none _
      | refine LeO.ite ?_ ?_
      | refine LeO.bind ?_ (fun _ => ?_)
    · intro y0 y1 y2 y3 y4 y5 y6
      unfold arcaderef1_both.j1
      repeat' first
      | (with_reducible exact ih0 _ _ _ _ _ _)
      | (with_reducible exact ih1 _ _ _ _ _ _ _)
      | (with_reducible exact LeO.refl _)
      | (with_reducible exact LeO.none _)
      | (with_reducible refine LeO.ite ?_ ?_)
      | (with_reducible refine LeO.bind ?_ (fun _ => ?_))
      | exact ih0 _ _ _ _ _ _
      | exact ih1 _ _ _ _ _ _ _
      | exact LeO.none _
      | refine LeO.ite ?_ ?_
      | refine LeO.bind ?_ (fun _ => ?_)
theorem arcaderef1_both.mono : ∀ a0 a1 a2 k, LeO (arcaderef1_both.f k a0 a1 a2) (arcaderef1_both.f (k + 1) a0 a1 a2) := by
  intro a0 a1 a2 k
  obtain ⟨ih0, ih1⟩ := arcaderef1_both.mono_l k
  unfold arcaderef1_both.f
  repeat' first
      | (with_reducible exact ih0 _ _ _ _ _ _)
      | (with_reducible exact ih1 _ _ _ _ _ _ _)
      | (with_reducible exact LeO.refl _)
      | (with_reducible exact LeO.none _)
      | (with_reducible refine LeO.ite ?_ ?_)
      | (with_reducible refine LeO.bind ?_ (fun _ => ?_))
      | exact ih0 _ _ _ _ _ _
      | exact ih1 _ _ _ _ _ _ _
      | exact LeO.none _
      | refine LeO.ite ?_ ?_
      | refine LeO.bind ?_ (fun _ => ?_)
set_option maxHeartbeats 8000000 in
set_option maxRecDepth 100000 in
theorem arcaderef1_both.calls (k : Nat) (A0 : Option Addr) (c0 : Nat) (l0 : List Bool) (A1 : Option Addr) (c1 : Nat) (l1 : List Bool) (a2 : Bool) (r1 : List Bool) (r2 : List Bool) (w : World) (hr0 : Kd.C Kd.bool w A0 l0.length l0) (hc0 : l0.length ≤ c0) (hr1 : Kd.C Kd.bool w A1 l1.length l1) (hc1 : l1.length ≤ c1) (h : arcaderef1_both.f k l0 l1 a2 = some (r1, r2)) :
    Calls Tryd.prog 31 #[.slice A0 l0.length c0, .slice A1 l1.length c1, .bool a2] w fun e w' => ∃ v0_ v1_ : Value, e = .returned (.tuple #[v0_, v1_]) ∧ Kd.R Kd.bool 4 w' w.heap.size (fun k_ => some k_ ≠ (v1_ : Value).ownBlock) v0_ r1 ∧ Kd.R Kd.bool 4 w' w.heap.size (fun k_ => some k_ ≠ (v0_ : Value).ownBlock) v1_ r2 ∧ Below w.heap.size w w' := by
  have HR0 := Aside0.mk hr0
  have HC0 := Aside0.mk hc0
  clear hr0 hc0
  have HR1 := Aside0.mk hr1
  have HC1 := Aside0.mk hc1
  clear hr1 hc1
  have HB := Aside0.mk (Below.refl w.heap.size w)
  have H : (arcaderef1_both.l0 k l0 l1 a2 ([] : List Bool) ([] : List Bool) 0) = some (r1, r2) := h
  clear h
  have H' := Aside0.mk H
  clear H
  go_enter Tryd.func31, Tryd.ntmps31
  go_wp2
  go_loopg [2, 8, 9, 10] k (fun kq v2 v8 v9 v10 w' => ∃ (x2_1 : Bool) (x8_1 : List Bool) (x9_1 : List Bool) (x10_1 : Int), v2 = .bool x2_1 ∧ v10 = .int .i64 x10_1 ∧ Aside0 (arcaderef1_both.l0 kq l0 l1 x2_1 x8_1 x9_1 x10_1 = some (r1, r2)) ∧ Aside0 (kq ≤ k) ∧ Aside0 (Kd.R Kd.bool 4 w' w.heap.size (fun k_ => some k_ ≠ (v9 : Value).ownBlock) v8 x8_1) ∧ Aside0 (Kd.R Kd.bool 4 w' w.heap.size (fun k_ => some k_ ≠ (v8 : Value).ownBlock) v9 x9_1) ∧ Aside0 (Below w.heap.size w w'))
  case atStart => exact ⟨(a2), (([] : List Bool)), (([] : List Bool)), (0), (by first | rfl | (simp; done) | (simp [*]; done)), (by first | rfl | (simp; done) | (simp [*]; done)), H', ⟨Nat.le_refl _⟩, ⟨by first | exact Kd.R_nil _ _ _ _ _ | exact Kd.N_nil _ _ _ _ _ | exact Kd.V_nil _ _ _ _ _ | exact Kd.Q_nil _ _ _ _ _ | exact Kd.S_nil _ _ _ _ _⟩, ⟨by first | exact Kd.R_nil _ _ _ _ _ | exact Kd.N_nil _ _ _ _ _ | exact Kd.V_nil _ _ _ _ _ | exact Kd.Q_nil _ _ _ _ _ | exact Kd.S_nil _ _ _ _ _⟩, ⟨by repeat (first | (with_reducible first | exact HB.out | apply below_alloc | apply pw_below_drewN | apply below_drew1) | exact HB.out)⟩⟩
  case round =>
    clear H'
    try clear c1
    try clear p2
    try clear c3
    obtain ⟨x2_1, x8_1, x9_1, x10_1, rfl, rfl, HA, HK1, HO_8, HO_9, HB⟩ := hrel
    cases gk with
    | zero => exact absurd HA.out (by simp [arcaderef1_both.l0])
    | succ k1 =>
      have H := HA.out
      clear HA
      simp only [arcaderef1_both.l0] at H
      by_cases c4 : x10_1 < (l0.length : Int)
      · rw [if_pos c4] at H
        have c4b0 : decide (x10_1 < (l0.length : Int)) = true := decide_eq_true c4
        clear c4
        by_cases c5 : 0 ≤ x10_1
        · rw [if_pos c5] at H
          have c5b0 : decide (0 ≤ x10_1) = true := decide_eq_true c5
          clear c5
          have HC6 := Aside0.mk H
          clear H
          have p104 : 0 ≤ (x10_1 : Int) := of_decide_eq_true (by first | (with_reducible assumption) | assumption)
          have q104 : x10_1 < (l0.length : Int) := of_decide_eq_true (by first | (with_reducible assumption) | assumption)
          obtain ⟨ad104, e104, hx104_0⟩ := Kd.at_bool HR0.out x10_1 p104 q104
          cases e104
          replace hx104_0 := (HB.out.cell (World.block_lt_of_cell? w _ hx104_0)).trans hx104_0
          replace p104 := eq_true p104
          replace q104 := eq_true q104
          go_upto_if 21 with (fail)
          go_cut [11] (fun v11 wc => ∃ (kq : Nat) (x11_5 : Int), v11 = .int .i64 x11_5 ∧ Aside0 (arcaderef1_both.j1 kq l0 l1 x2_1 x8_1 x9_1 x10_1 x11_5 = some (r1, r2)) ∧ Aside0 (kq ≤ k1) ∧ Aside0 (Kd.R Kd.bool 4 wc w.heap.size (fun k_ => some k_ ≠ (u9 : Value).ownBlock) u8 x8_1) ∧ Aside0 (Kd.R Kd.bool 4 wc w.heap.size (fun k_ => some k_ ≠ (u8 : Value).ownBlock) u9 x9_1) ∧ Aside0 (Below w.heap.size w wc))
          case first =>
            have H := HC6.out
            clear HC6
            obtain ⟨bq7, hbq7⟩ : ∃ b_ : Bool, b_ = (rdOf false l0 x10_1) := ⟨_, rfl⟩
            replace H : (if bq7 = true then (arcaderef1_both.j1 k1 l0 l1 x2_1 x8_1 x9_1 x10_1 (0 + 1)) else (arcaderef1_both.j1 k1 l0 l1 x2_1 x8_1 x9_1 x10_1 0)) = some (r1, r2) := by rw [← hbq7] at H; exact H
            have Nbq7 := Aside0.mk hbq7
            clear hbq7
            (try rw [← Nbq7.out])
            by_cases c8 : bq7 = true
            · subst c8
              have H1 : (arcaderef1_both.j1 k1 l0 l1 x2_1 x8_1 x9_1 x10_1 (0 + 1)) = some (r1, r2) := by rw [if_pos rfl] at H; exact H
              clear H
              have H := H1
              clear H1
              have H' := Aside0.mk H
              clear H
              go_wp2
              go_meet
              case rel => exact ⟨_, (0 + 1), (by first | rfl | (simp; done) | (simp [*]; done)), H', ⟨by have := HK1.out; first | omega | exact Nat.le_refl _⟩, ⟨by (with_reducible repeat (first | apply Kd.R_alloc | apply Kd.R_drewN | apply Kd.R_drew)); exact HO_8.out⟩, ⟨by (with_reducible repeat (first | apply Kd.R_alloc | apply Kd.R_drewN | apply Kd.R_drew)); exact HO_9.out⟩, ⟨by repeat (first | (with_reducible first | exact HB.out | apply below_alloc | apply pw_below_drewN | apply below_drew1) | exact HB.out)⟩⟩
            · replace c8 := Bool.eq_false_iff.mpr c8
              subst c8
              have H1 : (arcaderef1_both.j1 k1 l0 l1 x2_1 x8_1 x9_1 x10_1 0) = some (r1, r2) := by rw [if_neg (show ¬ (false = true) by decide)] at H; exact H
              clear H
              have H := H1
              clear H1
              have H' := Aside0.mk H
              clear H
              go_wp2
              go_meet
              case rel => exact ⟨_, (0), (by first | rfl | (simp; done) | (simp [*]; done)), H', ⟨by have := HK1.out; first | omega | exact Nat.le_refl _⟩, ⟨by (with_reducible repeat (first | apply Kd.R_alloc | apply Kd.R_drewN | apply Kd.R_drew)); exact HO_8.out⟩, ⟨by (with_reducible repeat (first | apply Kd.R_alloc | apply Kd.R_drewN | apply Kd.R_drew)); exact HO_9.out⟩, ⟨by repeat (first | (with_reducible first | exact HB.out | apply below_alloc | apply pw_below_drewN | apply below_drew1) | exact HB.out)⟩⟩
          case rest =>
            clear HC6
            try clear c1
            try clear p1
            try clear q1
            try clear hx1
            try clear p2
            try clear c3
            try clear c4
            try clear c4b0
            try clear c5
            try clear c5b0
            try clear q7
            try clear c8
            try clear hx104_0
            try clear p104
            try clear p2
            try clear q104
            obtain ⟨kq, x11_5, rfl, HA, HJ5, HO_8, HO_9, HB⟩ := hcut
            cases kq with
            | zero => exact absurd HA.out (by simp [arcaderef1_both.j1])
            | succ kj5 =>
              have H := HA.out
              clear HA
              simp only [arcaderef1_both.j1] at H
              by_cases c9 : 0 ≤ x10_1
              · rw [if_pos c9] at H
                have c9b0 : decide (0 ≤ x10_1) = true := decide_eq_true c9
                clear c9
                by_cases c10 : x10_1 < (l1.length : Int)
                · rw [if_pos c10] at H
                  have c10b0 : decide (x10_1 < (l1.length : Int)) = true := decide_eq_true c10
                  clear c10
                  obtain ⟨bq11, hbq11⟩ : ∃ b_ : Bool, b_ = (rdOf false l1 x10_1) := ⟨_, rfl⟩
                  replace H : (if bq11 = true then (if x2_1 = true then (if x8_1.length < 140737488355328 then (if x9_1.length < 140737488355328 then (arcaderef1_both.l0 kj5 l0 l1 (decide ((wrap64 ((wrap64 (x11_5 + 1)) + 1)) > 1)) (x8_1 ++ [((Int.tmod (wrap64 ((wrap64 (x11_5 + 1)) + 1)) 2) == 1)]) (x9_1 ++ [decide ((wrap64 ((wrap64 (x11_5 + 1)) + 1)) > 1)]) (wrap64 (x10_1 + 1))) else (none)) else (none)) else (if x8_1.length < 140737488355328 then (if x9_1.length < 140737488355328 then (arcaderef1_both.l0 kj5 l0 l1 (decide ((wrap64 (x11_5 + 1)) > 1)) (x8_1 ++ [((Int.tmod (wrap64 (x11_5 + 1)) 2) == 1)]) (x9_1 ++ [decide ((wrap64 (x11_5 + 1)) > 1)]) (wrap64 (x10_1 + 1))) else (none)) else (none))) else (if x2_1 = true then (if x8_1.length < 140737488355328 then (if x9_1.length < 140737488355328 then (arcaderef1_both.l0 kj5 l0 l1 (decide ((wrap64 (x11_5 + 1)) > 1)) (x8_1 ++ [((Int.tmod (wrap64 (x11_5 + 1)) 2) == 1)]) (x9_1 ++ [decide ((wrap64 (x11_5 + 1)) > 1)]) (wrap64 (x10_1 + 1))) else (none)) else (none)) else (if x8_1.length < 140737488355328 then (if x9_1.length < 140737488355328 then (arcaderef1_both.l0 kj5 l0 l1 (decide (x11_5 > 1)) (x8_1 ++ [((Int.tmod x11_5 2) == 1)]) (x9_1 ++ [decide (x11_5 > 1)]) (wrap64 (x10_1 + 1))) else (none)) else (none)))) = some (r1, r2) := by rw [← hbq11] at H; exact H
                  have Nbq11 := Aside0.mk hbq11
                  clear hbq11
                  by_cases c12 : bq11 = true
                  · subst c12
                    have H1 : (if x2_1 = true then (if x8_1.length < 140737488355328 then (if x9_1.length < 140737488355328 then (arcaderef1_both.l0 kj5 l0 l1 (decide ((wrap64 ((wrap64 (x11_5 + 1)) + 1)) > 1)) (x8_1 ++ [((Int.tmod (wrap64 ((wrap64 (x11_5 + 1)) + 1)) 2) == 1)]) (x9_1 ++ [decide ((wrap64 ((wrap64 (x11_5 + 1)) + 1)) > 1)]) (wrap64 (x10_1 + 1))) else (none)) else (none)) else (if x8_1.length < 140737488355328 then (if x9_1.length < 140737488355328 then (arcaderef1_both.l0 kj5 l0 l1 (decide ((wrap64 (x11_5 + 1)) > 1)) (x8_1 ++ [((Int.tmod (wrap64 (x11_5 + 1)) 2) == 1)]) (x9_1 ++ [decide ((wrap64 (x11_5 + 1)) > 1)]) (wrap64 (x10_1 + 1))) else (none)) else (none))) = some (r1, r2) := by rw [if_pos rfl] at H; exact H
                    clear H
                    have H := H1
                    clear H1
                    by_cases c13 : x2_1 = true
                    · subst c13
                      have H1 : (if x8_1.length < 140737488355328 then (if x9_1.length < 140737488355328 then (arcaderef1_both.l0 kj5 l0 l1 (decide ((wrap64 ((wrap64 (x11_5 + 1)) + 1)) > 1)) (x8_1 ++ [((Int.tmod (wrap64 ((wrap64 (x11_5 + 1)) + 1)) 2) == 1)]) (x9_1 ++ [decide ((wrap64 ((wrap64 (x11_5 + 1)) + 1)) > 1)]) (wrap64 (x10_1 + 1))) else (none)) else (none)) = some (r1, r2) := by rw [if_pos rfl] at H; exact H
                      clear H
                      have H := H1
                      clear H1
                      by_cases c14 : x8_1.length < 140737488355328
                      · rw [if_pos c14] at H
                        have LMc14 := Aside0.mk c14
                        clear c14
                        obtain ⟨y106, hy106⟩ : ∃ y_ : List Bool, y_ = (x8_1 ++ [((Int.tmod (wrap64 ((wrap64 (x11_5 + 1)) + 1)) 2) == 1)]) := ⟨_, rfl⟩
                        replace H : (if x9_1.length < 140737488355328 then (arcaderef1_both.l0 kj5 l0 l1 (decide ((wrap64 ((wrap64 (x11_5 + 1)) + 1)) > 1)) y106 (x9_1 ++ [decide ((wrap64 ((wrap64 (x11_5 + 1)) + 1)) > 1)]) (wrap64 (x10_1 + 1))) else (none)) = some (r1, r2) := by first | (rw [hy106]; with_reducible exact H) | (have H2_ := (Option.bind_some _ _).symm.trans H; rw [hy106]; with_reducible exact H2_) | (have H2_ := (Option.bind_some _ _).symm.trans H; with_reducible exact H2_) | with_reducible exact H | (rw [hy106]; exact H) | exact H
                        have Ny106 := Aside0.mk hy106
                        clear hy106
                        by_cases c15 : x9_1.length < 140737488355328
                        · rw [if_pos c15] at H
                          have LMc15 := Aside0.mk c15
                          clear c15
                          obtain ⟨y109, hy109⟩ : ∃ y_ : List Bool, y_ = (x9_1 ++ [decide ((wrap64 ((wrap64 (x11_5 + 1)) + 1)) > 1)]) := ⟨_, rfl⟩
                          replace H : (arcaderef1_both.l0 kj5 l0 l1 (decide ((wrap64 ((wrap64 (x11_5 + 1)) + 1)) > 1)) y106 y109 (wrap64 (x10_1 + 1))) = some (r1, r2) := by first | (rw [hy109]; with_reducible exact H) | (have H2_ := (Option.bind_some _ _).symm.trans H; rw [hy109]; with_reducible exact H2_) | (have H2_ := (Option.bind_some _ _).symm.trans H; with_reducible exact H2_) | with_reducible exact H | (rw [hy109]; exact H) | exact H
                          have Ny109 := Aside0.mk hy109
                          clear hy109
                          have H' := Aside0.mk H
                          clear H
                          have p105 : 0 ≤ (x10_1 : Int) := of_decide_eq_true (by first | (with_reducible assumption) | assumption)
                          have q105 : x10_1 < (l1.length : Int) := of_decide_eq_true (by first | (with_reducible assumption) | assumption)
                          obtain ⟨ad105, e105, hx105_0⟩ := Kd.at_bool HR1.out x10_1 p105 q105
                          (try rw [← Nbq11.out] at hx105_0)
                          cases e105
                          replace hx105_0 := (HB.out.cell (World.block_lt_of_cell? w _ hx105_0)).trans hx105_0
                          replace p105 := eq_true p105
                          replace q105 := eq_true q105
                          go_wp2_with (first | ((with_reducible refine gate_builtin (b := .append) (xs := #[.tmp 35, .tmp 39]) rfl ?_); at_builtin; refine Kd.R_append Kd.bool (w0 := w) w.heap.size rfl (.tmp 35) (.tmp 39) 45 4 (.bool false) 1 rfl Tryd.underlying45 info4 rfl (by decide) (by omega) u8 x8_1 ((Int.tmod (wrap64 ((wrap64 (x11_5 + 1)) + 1)) 2) == 1) [.bool ((Int.tmod (wrap64 ((wrap64 (x11_5 + 1)) + 1)) 2) == 1)] (fun k_ => some k_ ≠ (u9 : Value).ownBlock) (fun _ => False) rfl rfl ?aP (fun _ hk => hk.elim) ?aF ?aO ?aB ?aS ?aL ?_; (case aP => exact rfl); (case aB => exact (by repeat (first | (with_reducible first | exact HB.out | apply below_alloc | apply pw_below_drewN | apply below_drew1) | exact HB.out))); (case aF => exact (fun k_ hk => Kd.fresh' (Kd.R_lt (by (with_reducible repeat (first | apply Kd.R_alloc | apply Kd.R_drewN | apply Kd.R_drew)); exact HO_9.out)) k_ hk)); (case aO => exact (by (with_reducible repeat (first | apply Kd.R_alloc | apply Kd.R_drewN | apply Kd.R_drew)); exact HO_8.out)); (case aS => exact (below_size (by repeat (first | (with_reducible first | exact HB.out | apply below_alloc | apply pw_below_drewN | apply below_drew1) | exact HB.out)))); (case aL => have := LMc14.out; omega); intro v107 w16 ho hb hg hat; rw [← Ny106.out] at ho; have n0_ := Aside0.mk (Kd.R_after (ok := (fun _ => True)) (by (with_reducible repeat (first | apply Kd.R_alloc | apply Kd.R_drewN | apply Kd.R_drew)); exact Kd.R_mono HO_9.out (fun _ hk => ⟨trivial, hk⟩)) hg hat); have n1_ := Aside0.mk (hb); have n2_ := Aside0.mk (ho); clear HO_9; clear HB; clear HO_8; have HO_9 := n0_; have HB := n1_; have HO108 := n2_; clear n0_ n1_ n2_; clear ho hb hg hat) | ((with_reducible refine gate_builtin (b := .append) (xs := #[.tmp 41, .tmp 43]) rfl ?_); at_builtin; refine Kd.R_append Kd.bool (w0 := w) w.heap.size rfl (.tmp 41) (.tmp 43) 45 4 (.bool false) 1 rfl Tryd.underlying45 info4 rfl (by decide) (by omega) u9 x9_1 (decide ((wrap64 ((wrap64 (x11_5 + 1)) + 1)) > 1)) [.bool (decide ((wrap64 ((wrap64 (x11_5 + 1)) + 1)) > 1))] (fun k_ => some k_ ≠ (v107 : Value).ownBlock) (fun _ => False) rfl rfl ?aP (fun _ hk => hk.elim) ?aF ?aO ?aB ?aS ?aL ?_; (case aP => exact rfl); (case aB => exact (by repeat (first | (with_reducible first | exact HB.out | apply below_alloc | apply pw_below_drewN | apply below_drew1) | exact HB.out))); (case aF => exact (fun k_ hk => Kd.fresh' (Kd.R_lt (by (with_reducible repeat (first | apply Kd.R_alloc | apply Kd.R_drewN | apply Kd.R_drew)); exact HO108.out)) k_ hk)); (case aO => exact (by (with_reducible repeat (first | apply Kd.R_alloc | apply Kd.R_drewN | apply Kd.R_drew)); exact Kd.R_mono HO_9.out (fun _ hk => hk.2))); (case aS => exact (below_size (by repeat (first | (with_reducible first | exact HB.out | apply below_alloc | apply pw_below_drewN | apply below_drew1) | exact HB.out)))); (case aL => have := LMc15.out; omega); intro v110 w17 ho hb hg hat; rw [← Ny109.out] at ho; have n0_ := Aside0.mk (Kd.R_after (ok := (fun _ => True)) (by (with_reducible repeat (first | apply Kd.R_alloc | apply Kd.R_drewN | apply Kd.R_drew)); exact Kd.R_mono HO108.out (fun _ hk => ⟨trivial, hk⟩)) hg hat); have n1_ := Aside0.mk (hb); have n2_ := Aside0.mk (ho); clear HO108; clear HB; clear HO_9; have HO108 := n0_; have HB := n1_; have HO111 := n2_; clear n0_ n1_ n2_; clear ho hb hg hat))
                          go_roundg kj5
                          case measure => have := HK1.out; have := HJ5.out; omega
                          case rel => exact ⟨(decide ((wrap64 ((wrap64 (x11_5 + 1)) + 1)) > 1)), (y106), (y109), (wrap64 (x10_1 + 1)), (by first | rfl | (simp; done) | (simp [*]; done)), (by first | rfl | (simp; done) | (simp [*]; done)), H', ⟨by have := HK1.out; have := HJ5.out; omega⟩, ⟨by (with_reducible repeat (first | apply Kd.R_alloc | apply Kd.R_drewN | apply Kd.R_drew)); exact Kd.R_mono HO108.out (fun _ hk => hk.2)⟩, ⟨by (with_reducible repeat (first | apply Kd.R_alloc | apply Kd.R_drewN | apply Kd.R_drew)); exact HO111.out⟩, ⟨by repeat (first | (with_reducible first | exact HB.out | apply below_alloc | apply pw_below_drewN | apply below_drew1) | exact HB.out)⟩⟩
                        · rw [if_neg c15] at H
                          exact absurd H (by simp)
                      · rw [if_neg c14] at H
                        exact absurd H (by simp)
                    · replace c13 := Bool.eq_false_iff.mpr c13
                      subst c13
                      have H1 : (if x8_1.length < 140737488355328 then (if x9_1.length < 140737488355328 then (arcaderef1_both.l0 kj5 l0 l1 (decide ((wrap64 (x11_5 + 1)) > 1)) (x8_1 ++ [((Int.tmod (wrap64 (x11_5 + 1)) 2) == 1)]) (x9_1 ++ [decide ((wrap64 (x11_5 + 1)) > 1)]) (wrap64 (x10_1 + 1))) else (none)) else (none)) = some (r1, r2) := by rw [if_neg (show ¬ (false = true) by decide)] at H; exact H
                      clear H
                      have H := H1
                      clear H1
                      by_cases c18 : x8_1.length < 140737488355328
                      · rw [if_pos c18] at H
                        have LMc18 := Aside0.mk c18
                        clear c18
                        obtain ⟨y112, hy112⟩ : ∃ y_ : List Bool, y_ = (x8_1 ++ [((Int.tmod (wrap64 (x11_5 + 1)) 2) == 1)]) := ⟨_, rfl⟩
                        replace H : (if x9_1.length < 140737488355328 then (arcaderef1_both.l0 kj5 l0 l1 (decide ((wrap64 (x11_5 + 1)) > 1)) y112 (x9_1 ++ [decide ((wrap64 (x11_5 + 1)) > 1)]) (wrap64 (x10_1 + 1))) else (none)) = some (r1, r2) := by first | (rw [hy112]; with_reducible exact H) | (have H2_ := (Option.bind_some _ _).symm.trans H; rw [hy112]; with_reducible exact H2_) | (have H2_ := (Option.bind_some _ _).symm.trans H; with_reducible exact H2_) | with_reducible exact H | (rw [hy112]; exact H) | exact H
                        have Ny112 := Aside0.mk hy112
                        clear hy112
                        by_cases c19 : x9_1.length < 140737488355328
                        · rw [if_pos c19] at H
                          have LMc19 := Aside0.mk c19
                          clear c19
                          obtain ⟨y115, hy115⟩ : ∃ y_ : List Bool, y_ = (x9_1 ++ [decide ((wrap64 (x11_5 + 1)) > 1)]) := ⟨_, rfl⟩
                          replace H : (arcaderef1_both.l0 kj5 l0 l1 (decide ((wrap64 (x11_5 + 1)) > 1)) y112 y115 (wrap64 (x10_1 + 1))) = some (r1, r2) := by first | (rw [hy115]; with_reducible exact H) | (have H2_ := (Option.bind_some _ _).symm.trans H; rw [hy115]; with_reducible exact H2_) | (have H2_ := (Option.bind_some _ _).symm.trans H; with_reducible exact H2_) | with_reducible exact H | (rw [hy115]; exact H) | exact H
                          have Ny115 := Aside0.mk hy115
                          clear hy115
                          have H' := Aside0.mk H
                          clear H
                          have p105 : 0 ≤ (x10_1 : Int) := of_decide_eq_true (by first | (with_reducible assumption) | assumption)
                          have q105 : x10_1 < (l1.length : Int) := of_decide_eq_true (by first | (with_reducible assumption) | assumption)
                          obtain ⟨ad105, e105, hx105_0⟩ := Kd.at_bool HR1.out x10_1 p105 q105
                          (try rw [← Nbq11.out] at hx105_0)
                          cases e105
                          replace hx105_0 := (HB.out.cell (World.block_lt_of_cell? w _ hx105_0)).trans hx105_0
                          replace p105 := eq_true p105
                          replace q105 := eq_true q105
                          go_wp2_with (first | ((with_reducible refine gate_builtin (b := .append) (xs := #[.tmp 35, .tmp 39]) rfl ?_); at_builtin; refine Kd.R_append Kd.bool (w0 := w) w.heap.size rfl (.tmp 35) (.tmp 39) 45 4 (.bool false) 1 rfl Tryd.underlying45 info4 rfl (by decide) (by omega) u8 x8_1 ((Int.tmod (wrap64 (x11_5 + 1)) 2) == 1) [.bool ((Int.tmod (wrap64 (x11_5 + 1)) 2) == 1)] (fun k_ => some k_ ≠ (u9 : Value).ownBlock) (fun _ => False) rfl rfl ?aP (fun _ hk => hk.elim) ?aF ?aO ?aB ?aS ?aL ?_; (case aP => exact rfl); (case aB => exact (by repeat (first | (with_reducible first | exact HB.out | apply below_alloc | apply pw_below_drewN | apply below_drew1) | exact HB.out))); (case aF => exact (fun k_ hk => Kd.fresh' (Kd.R_lt (by (with_reducible repeat (first | apply Kd.R_alloc | apply Kd.R_drewN | apply Kd.R_drew)); exact HO_9.out)) k_ hk)); (case aO => exact (by (with_reducible repeat (first | apply Kd.R_alloc | apply Kd.R_drewN | apply Kd.R_drew)); exact HO_8.out)); (case aS => exact (below_size (by repeat (first | (with_reducible first | exact HB.out | apply below_alloc | apply pw_below_drewN | apply below_drew1) | exact HB.out)))); (case aL => have := LMc18.out; omega); intro v113 w20 ho hb hg hat; rw [← Ny112.out] at ho; have n0_ := Aside0.mk (Kd.R_after (ok := (fun _ => True)) (by (with_reducible repeat (first | apply Kd.R_alloc | apply Kd.R_drewN | apply Kd.R_drew)); exact Kd.R_mono HO_9.out (fun _ hk => ⟨trivial, hk⟩)) hg hat); have n1_ := Aside0.mk (hb); have n2_ := Aside0.mk (ho); clear HO_9; clear HB; clear HO_8; have HO_9 := n0_; have HB := n1_; have HO114 := n2_; clear n0_ n1_ n2_; clear ho hb hg hat) | ((with_reducible refine gate_builtin (b := .append) (xs := #[.tmp 41, .tmp 43]) rfl ?_); at_builtin; refine Kd.R_append Kd.bool (w0 := w) w.heap.size rfl (.tmp 41) (.tmp 43) 45 4 (.bool false) 1 rfl Tryd.underlying45 info4 rfl (by decide) (by omega) u9 x9_1 (decide ((wrap64 (x11_5 + 1)) > 1)) [.bool (decide ((wrap64 (x11_5 + 1)) > 1))] (fun k_ => some k_ ≠ (v113 : Value).ownBlock) (fun _ => False) rfl rfl ?aP (fun _ hk => hk.elim) ?aF ?aO ?aB ?aS ?aL ?_; (case aP => exact rfl); (case aB => exact (by repeat (first | (with_reducible first | exact HB.out | apply below_alloc | apply pw_below_drewN | apply below_drew1) | exact HB.out))); (case aF => exact (fun k_ hk => Kd.fresh' (Kd.R_lt (by (with_reducible repeat (first | apply Kd.R_alloc | apply Kd.R_drewN | apply Kd.R_drew)); exact HO114.out)) k_ hk)); (case aO => exact (by (with_reducible repeat (first | apply Kd.R_alloc | apply Kd.R_drewN | apply Kd.R_drew)); exact Kd.R_mono HO_9.out (fun _ hk => hk.2))); (case aS => exact (below_size (by repeat (first | (with_reducible first | exact HB.out | apply below_alloc | apply pw_below_drewN | apply below_drew1) | exact HB.out)))); (case aL => have := LMc19.out; omega); intro v116 w21 ho hb hg hat; rw [← Ny115.out] at ho; have n0_ := Aside0.mk (Kd.R_after (ok := (fun _ => True)) (by (with_reducible repeat (first | apply Kd.R_alloc | apply Kd.R_drewN | apply Kd.R_drew)); exact Kd.R_mono HO114.out (fun _ hk => ⟨trivial, hk⟩)) hg hat); have n1_ := Aside0.mk (hb); have n2_ := Aside0.mk (ho); clear HO114; clear HB; clear HO_9; have HO114 := n0_; have HB := n1_; have HO117 := n2_; clear n0_ n1_ n2_; clear ho hb hg hat))
                          go_roundg kj5
                          case measure => have := HK1.out; have := HJ5.out; omega
                          case rel => exact ⟨(decide ((wrap64 (x11_5 + 1)) > 1)), (y112), (y115), (wrap64 (x10_1 + 1)), (by first | rfl | (simp; done) | (simp [*]; done)), (by first | rfl | (simp; done) | (simp [*]; done)), H', ⟨by have := HK1.out; have := HJ5.out; omega⟩, ⟨by (with_reducible repeat (first | apply Kd.R_alloc | apply Kd.R_drewN | apply Kd.R_drew)); exact Kd.R_mono HO114.out (fun _ hk => hk.2)⟩, ⟨by (with_reducible repeat (first | apply Kd.R_alloc | apply Kd.R_drewN | apply Kd.R_drew)); exact HO117.out⟩, ⟨by repeat (first | (with_reducible first | exact HB.out | apply below_alloc | apply pw_below_drewN | apply below_drew1) | exact HB.out)⟩⟩
                        · rw [if_neg c19] at H
                          exact absurd H (by simp)
                      · rw [if_neg c18] at H
                        exact absurd H (by simp)
                  · replace c12 := Bool.eq_false_iff.mpr c12
                    subst c12
                    have H1 : (if x2_1 = true then (if x8_1.length < 140737488355328 then (if x9_1.length < 140737488355328 then (arcaderef1_both.l0 kj5 l0 l1 (decide ((wrap64 (x11_5 + 1)) > 1)) (x8_1 ++ [((Int.tmod (wrap64 (x11_5 + 1)) 2) == 1)]) (x9_1 ++ [decide ((wrap64 (x11_5 + 1)) > 1)]) (wrap64 (x10_1 + 1))) else (none)) else (none)) else (if x8_1.length < 140737488355328 then (if x9_1.length < 140737488355328 then (arcaderef1_both.l0 kj5 l0 l1 (decide (x11_5 > 1)) (x8_1 ++ [((Int.tmod x11_5 2) == 1)]) (x9_1 ++ [decide (x11_5 > 1)]) (wrap64 (x10_1 + 1))) else (none)) else (none))) = some (r1, r2) := by rw [if_neg (show ¬ (false = true) by decide)] at H; exact H
                    clear H
                    have H := H1
                    clear H1
                    by_cases c22 : x2_1 = true
                    · subst c22
                      have H1 : (if x8_1.length < 140737488355328 then (if x9_1.length < 140737488355328 then (arcaderef1_both.l0 kj5 l0 l1 (decide ((wrap64 (x11_5 + 1)) > 1)) (x8_1 ++ [((Int.tmod (wrap64 (x11_5 + 1)) 2) == 1)]) (x9_1 ++ [decide ((wrap64 (x11_5 + 1)) > 1)]) (wrap64 (x10_1 + 1))) else (none)) else (none)) = some (r1, r2) := by rw [if_pos rfl] at H; exact H
                      clear H
                      have H := H1
                      clear H1
                      by_cases c23 : x8_1.length < 140737488355328
                      · rw [if_pos c23] at H
                        have LMc23 := Aside0.mk c23
                        clear c23
                        obtain ⟨y118, hy118⟩ : ∃ y_ : List Bool, y_ = (x8_1 ++ [((Int.tmod (wrap64 (x11_5 + 1)) 2) == 1)]) := ⟨_, rfl⟩
                        replace H : (if x9_1.length < 140737488355328 then (arcaderef1_both.l0 kj5 l0 l1 (decide ((wrap64 (x11_5 + 1)) > 1)) y118 (x9_1 ++ [decide ((wrap64 (x11_5 + 1)) > 1)]) (wrap64 (x10_1 + 1))) else (none)) = some (r1, r2) := by first | (rw [hy118]; with_reducible exact H) | (have H2_ := (Option.bind_some _ _).symm.trans H; rw [hy118]; with_reducible exact H2_) | (have H2_ := (Option.bind_some _ _).symm.trans H; with_reducible exact H2_) | with_reducible exact H | (rw [hy118]; exact H) | exact H
                        have Ny118 := Aside0.mk hy118
                        clear hy118
                        by_cases c24 : x9_1.length < 140737488355328
                        · rw [if_pos c24] at H
                          have LMc24 := Aside0.mk c24
                          clear c24
                          obtain ⟨y121, hy121⟩ : ∃ y_ : List Bool, y_ = (x9_1 ++ [decide ((wrap64 (x11_5 + 1)) > 1)]) := ⟨_, rfl⟩
                          replace H : (arcaderef1_both.l0 kj5 l0 l1 (decide ((wrap64 (x11_5 + 1)) > 1)) y118 y121 (wrap64 (x10_1 + 1))) = some (r1, r2) := by first | (rw [hy121]; with_reducible exact H) | (have H2_ := (Option.bind_some _ _).symm.trans H; rw [hy121]; with_reducible exact H2_) | (have H2_ := (Option.bind_some _ _).symm.trans H; with_reducible exact H2_) | with_reducible exact H | (rw [hy121]; exact H) | exact H
                          have Ny121 := Aside0.mk hy121
                          clear hy121
                          have H' := Aside0.mk H
                          clear H
                          have p105 : 0 ≤ (x10_1 : Int) := of_decide_eq_true (by first | (with_reducible assumption) | assumption)
                          have q105 : x10_1 < (l1.length : Int) := of_decide_eq_true (by first | (with_reducible assumption) | assumption)
                          obtain ⟨ad105, e105, hx105_0⟩ := Kd.at_bool HR1.out x10_1 p105 q105
                          (try rw [← Nbq11.out] at hx105_0)
                          cases e105
                          replace hx105_0 := (HB.out.cell (World.block_lt_of_cell? w _ hx105_0)).trans hx105_0
                          replace p105 := eq_true p105
                          replace q105 := eq_true q105
                          go_wp2_with (first | ((with_reducible refine gate_builtin (b := .append) (xs := #[.tmp 35, .tmp 39]) rfl ?_); at_builtin; refine Kd.R_append Kd.bool (w0 := w) w.heap.size rfl (.tmp 35) (.tmp 39) 45 4 (.bool false) 1 rfl Tryd.underlying45 info4 rfl (by decide) (by omega) u8 x8_1 ((Int.tmod (wrap64 (x11_5 + 1)) 2) == 1) [.bool ((Int.tmod (wrap64 (x11_5 + 1)) 2) == 1)] (fun k_ => some k_ ≠ (u9 : Value).ownBlock) (fun _ => False) rfl rfl ?aP (fun _ hk => hk.elim) ?aF ?aO ?aB ?aS ?aL ?_; (case aP => exact rfl); (case aB => exact (by repeat (first | (with_reducible first | exact HB.out | apply below_alloc | apply pw_below_drewN | apply below_drew1) | exact HB.out))); (case aF => exact (fun k_ hk => Kd.fresh' (Kd.R_lt (by (with_reducible repeat (first | apply Kd.R_alloc | apply Kd.R_drewN | apply Kd.R_drew)); exact HO_9.out)) k_ hk)); (case aO => exact (by (with_reducible repeat (first | apply Kd.R_alloc | apply Kd.R_drewN | apply Kd.R_drew)); exact HO_8.out)); (case aS => exact (below_size (by repeat (first | (with_reducible first | exact HB.out | apply below_alloc | apply pw_below_drewN | apply below_drew1) | exact HB.out)))); (case aL => have := LMc23.out; omega); intro v119 w25 ho hb hg hat; rw [← Ny118.out] at ho; have n0_ := Aside0.mk (Kd.R_after (ok := (fun _ => True)) (by (with_reducible repeat (first | apply Kd.R_alloc | apply Kd.R_drewN | apply Kd.R_drew)); exact Kd.R_mono HO_9.out (fun _ hk => ⟨trivial, hk⟩)) hg hat); have n1_ := Aside0.mk (hb); have n2_ := Aside0.mk (ho); clear HO_9; clear HB; clear HO_8; have HO_9 := n0_; have HB := n1_; have HO120 := n2_; clear n0_ n1_ n2_; clear ho hb hg hat) | ((with_reducible refine gate_builtin (b := .append) (xs := #[.tmp 41, .tmp 43]) rfl ?_); at_builtin; refine Kd.R_append Kd.bool (w0 := w) w.heap.size rfl (.tmp 41) (.tmp 43) 45 4 (.bool false) 1 rfl Tryd.underlying45 info4 rfl (by decide) (by omega) u9 x9_1 (decide ((wrap64 (x11_5 + 1)) > 1)) [.bool (decide ((wrap64 (x11_5 + 1)) > 1))] (fun k_ => some k_ ≠ (v119 : Value).ownBlock) (fun _ => False) rfl rfl ?aP (fun _ hk => hk.elim) ?aF ?aO ?aB ?aS ?aL ?_; (case aP => exact rfl); (case aB => exact (by repeat (first | (with_reducible first | exact HB.out | apply below_alloc | apply pw_below_drewN | apply below_drew1) | exact HB.out))); (case aF => exact (fun k_ hk => Kd.fresh' (Kd.R_lt (by (with_reducible repeat (first | apply Kd.R_alloc | apply Kd.R_drewN | apply Kd.R_drew)); exact HO120.out)) k_ hk)); (case aO => exact (by (with_reducible repeat (first | apply Kd.R_alloc | apply Kd.R_drewN | apply Kd.R_drew)); exact Kd.R_mono HO_9.out (fun _ hk => hk.2))); (case aS => exact (below_size (by repeat (first | (with_reducible first | exact HB.out | apply below_alloc | apply pw_below_drewN | apply below_drew1) | exact HB.out)))); (case aL => have := LMc24.out; omega); intro v122 w26 ho hb hg hat; rw [← Ny121.out] at ho; have n0_ := Aside0.mk (Kd.R_after (ok := (fun _ => True)) (by (with_reducible repeat (first | apply Kd.R_alloc | apply Kd.R_drewN | apply Kd.R_drew)); exact Kd.R_mono HO120.out (fun _ hk => ⟨trivial, hk⟩)) hg hat); have n1_ := Aside0.mk (hb); have n2_ := Aside0.mk (ho); clear HO120; clear HB; clear HO_9; have HO120 := n0_; have HB := n1_; have HO123 := n2_; clear n0_ n1_ n2_; clear ho hb hg hat))
                          go_roundg kj5
                          case measure => have := HK1.out; have := HJ5.out; omega
                          case rel => exact ⟨(decide ((wrap64 (x11_5 + 1)) > 1)), (y118), (y121), (wrap64 (x10_1 + 1)), (by first | rfl | (simp; done) | (simp [*]; done)), (by first | rfl | (simp; done) | (simp [*]; done)), H', ⟨by have := HK1.out; have := HJ5.out; omega⟩, ⟨by (with_reducible repeat (first | apply Kd.R_alloc | apply Kd.R_drewN | apply Kd.R_drew)); exact Kd.R_mono HO120.out (fun _ hk => hk.2)⟩, ⟨by (with_reducible repeat (first | apply Kd.R_alloc | apply Kd.R_drewN | apply Kd.R_drew)); exact HO123.out⟩, ⟨by repeat (first | (with_reducible first | exact HB.out | apply below_alloc | apply pw_below_drewN | apply below_drew1) | exact HB.out)⟩⟩
                        · rw [if_neg c24] at H
                          exact absurd H (by simp)
                      · rw [if_neg c23] at H
                        exact absurd H (by simp)
                    · replace c22 := Bool.eq_false_iff.mpr c22
                      subst c22
                      have H1 : (if x8_1.length < 140737488355328 then (if x9_1.length < 140737488355328 then (arcaderef1_both.l0 kj5 l0 l1 (decide (x11_5 > 1)) (x8_1 ++ [((Int.tmod x11_5 2) == 1)]) (x9_1 ++ [decide (x11_5 > 1)]) (wrap64 (x10_1 + 1))) else (none)) else (none)) = some (r1, r2) := by rw [if_neg (show ¬ (false = true) by decide)] at H; exact H
                      clear H
                      have H := H1
                      clear H1
                      by_cases c27 : x8_1.length < 140737488355328
                      · rw [if_pos c27] at H
                        have LMc27 := Aside0.mk c27
                        clear c27
                        obtain ⟨y124, hy124⟩ : ∃ y_ : List Bool, y_ = (x8_1 ++ [((Int.tmod x11_5 2) == 1)]) := ⟨_, rfl⟩
                        replace H : (if x9_1.length < 140737488355328 then (arcaderef1_both.l0 kj5 l0 l1 (decide (x11_5 > 1)) y124 (x9_1 ++ [decide (x11_5 > 1)]) (wrap64 (x10_1 + 1))) else (none)) = some (r1, r2) := by first | (rw [hy124]; with_reducible exact H) | (have H2_ := (Option.bind_some _ _).symm.trans H; rw [hy124]; with_reducible exact H2_) | (have H2_ := (Option.bind_some _ _).symm.trans H; with_reducible exact H2_) | with_reducible exact H | (rw [hy124]; exact H) | exact H
                        have Ny124 := Aside0.mk hy124
                        clear hy124
                        by_cases c28 : x9_1.length < 140737488355328
                        · rw [if_pos c28] at H
                          have LMc28 := Aside0.mk c28
                          clear c28
                          obtain ⟨y127, hy127⟩ : ∃ y_ : List Bool, y_ = (x9_1 ++ [decide (x11_5 > 1)]) := ⟨_, rfl⟩
                          replace H : (arcaderef1_both.l0 kj5 l0 l1 (decide (x11_5 > 1)) y124 y127 (wrap64 (x10_1 + 1))) = some (r1, r2) := by first | (rw [hy127]; with_reducible exact H) | (have H2_ := (Option.bind_some _ _).symm.trans H; rw [hy127]; with_reducible exact H2_) | (have H2_ := (Option.bind_some _ _).symm.trans H; with_reducible exact H2_) | with_reducible exact H | (rw [hy127]; exact H) | exact H
                          have Ny127 := Aside0.mk hy127
                          clear hy127
                          have H' := Aside0.mk H
                          clear H
                          have p105 : 0 ≤ (x10_1 : Int) := of_decide_eq_true (by first | (with_reducible assumption) | assumption)
                          have q105 : x10_1 < (l1.length : Int) := of_decide_eq_true (by first | (with_reducible assumption) | assumption)
                          obtain ⟨ad105, e105, hx105_0⟩ := Kd.at_bool HR1.out x10_1 p105 q105
                          (try rw [← Nbq11.out] at hx105_0)
                          cases e105
                          replace hx105_0 := (HB.out.cell (World.block_lt_of_cell? w _ hx105_0)).trans hx105_0
                          replace p105 := eq_true p105
                          replace q105 := eq_true q105
                          go_wp2_with (first | ((with_reducible refine gate_builtin (b := .append) (xs := #[.tmp 35, .tmp 39]) rfl ?_); at_builtin; refine Kd.R_append Kd.bool (w0 := w) w.heap.size rfl (.tmp 35) (.tmp 39) 45 4 (.bool false) 1 rfl Tryd.underlying45 info4 rfl (by decide) (by omega) u8 x8_1 ((Int.tmod x11_5 2) == 1) [.bool ((Int.tmod x11_5 2) == 1)] (fun k_ => some k_ ≠ (u9 : Value).ownBlock) (fun _ => False) rfl rfl ?aP (fun _ hk => hk.elim) ?aF ?aO ?aB ?aS ?aL ?_; (case aP => exact rfl); (case aB => exact (by repeat (first | (with_reducible first | exact HB.out | apply below_alloc | apply pw_below_drewN | apply below_drew1) | exact HB.out))); (case aF => exact (fun k_ hk => Kd.fresh' (Kd.R_lt (by (with_reducible repeat (first | apply Kd.R_alloc | apply Kd.R_drewN | apply Kd.R_drew)); exact HO_9.out)) k_ hk)); (case aO => exact (by (with_reducible repeat (first | apply Kd.R_alloc | apply Kd.R_drewN | apply Kd.R_drew)); exact HO_8.out)); (case aS => exact (below_size (by repeat (first | (with_reducible first | exact HB.out | apply below_alloc | apply pw_below_drewN | apply below_drew1) | exact HB.out)))); (case aL => have := LMc27.out; omega); intro v125 w29 ho hb hg hat; rw [← Ny124.out] at ho; have n0_ := Aside0.mk (Kd.R_after (ok := (fun _ => True)) (by (with_reducible repeat (first | apply Kd.R_alloc | apply Kd.R_drewN | apply Kd.R_drew)); exact Kd.R_mono HO_9.out (fun _ hk => ⟨trivial, hk⟩)) hg hat); have n1_ := Aside0.mk (hb); have n2_ := Aside0.mk (ho); clear HO_9; clear HB; clear HO_8; have HO_9 := n0_; have HB := n1_; have HO126 := n2_; clear n0_ n1_ n2_; clear ho hb hg hat) | ((with_reducible refine gate_builtin (b := .append) (xs := #[.tmp 41, .tmp 43]) rfl ?_); at_builtin; refine Kd.R_append Kd.bool (w0 := w) w.heap.size rfl (.tmp 41) (.tmp 43) 45 4 (.bool false) 1 rfl Tryd.underlying45 info4 rfl (by decide) (by omega) u9 x9_1 (decide (x11_5 > 1)) [.bool (decide (x11_5 > 1))] (fun k_ => some k_ ≠ (v125 : Value).ownBlock) (fun _ => False) rfl rfl ?aP (fun _ hk => hk.elim) ?aF ?aO ?aB ?aS ?aL ?_; (case aP => exact rfl); (case aB => exact (by repeat (first | (with_reducible first | exact HB.out | apply below_alloc | apply pw_below_drewN | apply below_drew1) | exact HB.out))); (case aF => exact (fun k_ hk => Kd.fresh' (Kd.R_lt (by (with_reducible repeat (first | apply Kd.R_alloc | apply Kd.R_drewN | apply Kd.R_drew)); exact HO126.out)) k_ hk)); (case aO => exact (by (with_reducible repeat (first | apply Kd.R_alloc | apply Kd.R_drewN | apply Kd.R_drew)); exact Kd.R_mono HO_9.out (fun _ hk => hk.2))); (case aS => exact (below_size (by repeat (first | (with_reducible first | exact HB.out | apply below_alloc | apply pw_below_drewN | apply below_drew1) | exact HB.out)))); (case aL => have := LMc28.out; omega); intro v128 w30 ho hb hg hat; rw [← Ny127.out] at ho; have n0_ := Aside0.mk (Kd.R_after (ok := (fun _ => True)) (by (with_reducible repeat (first | apply Kd.R_alloc | apply Kd.R_drewN | apply Kd.R_drew)); exact Kd.R_mono HO126.out (fun _ hk => ⟨trivial, hk⟩)) hg hat); have n1_ := Aside0.mk (hb); have n2_ := Aside0.mk (ho); clear HO126; clear HB; clear HO_9; have HO126 := n0_; have HB := n1_; have HO129 := n2_; clear n0_ n1_ n2_; clear ho hb hg hat))
                          go_roundg kj5
                          case measure => have := HK1.out; have := HJ5.out; omega
                          case rel => exact ⟨(decide (x11_5 > 1)), (y124), (y127), (wrap64 (x10_1 + 1)), (by first | rfl | (simp; done) | (simp [*]; done)), (by first | rfl | (simp; done) | (simp [*]; done)), H', ⟨by have := HK1.out; have := HJ5.out; omega⟩, ⟨by (with_reducible repeat (first | apply Kd.R_alloc | apply Kd.R_drewN | apply Kd.R_drew)); exact Kd.R_mono HO126.out (fun _ hk => hk.2)⟩, ⟨by (with_reducible repeat (first | apply Kd.R_alloc | apply Kd.R_drewN | apply Kd.R_drew)); exact HO129.out⟩, ⟨by repeat (first | (with_reducible first | exact HB.out | apply below_alloc | apply pw_below_drewN | apply below_drew1) | exact HB.out)⟩⟩
                        · rw [if_neg c28] at H
                          exact absurd H (by simp)
                      · rw [if_neg c27] at H
                        exact absurd H (by simp)
                · rw [if_neg c10] at H
                  exact absurd H (by simp)
              · rw [if_neg c9] at H
                exact absurd H (by simp)
        · rw [if_neg c5] at H
          exact absurd H (by simp)
      · rw [if_neg c4] at H
        have c4b0 : decide (x10_1 < (l0.length : Int)) = false := decide_eq_false c4
        clear c4
        simp only [Option.some.injEq, Prod.mk.injEq] at H
        obtain ⟨rfl, rfl⟩ := H
        go_wp2
        go_ret2
        exact ⟨_, _, by first | rfl | (simp [errW_none, errW_some] <;> rfl) | (simp [*, errW_none, errW_some] <;> rfl), by (with_reducible repeat (first | apply Kd.R_alloc | apply Kd.R_drewN | apply Kd.R_drew)); exact HO_8.out, by (with_reducible repeat (first | apply Kd.R_alloc | apply Kd.R_drewN | apply Kd.R_drew)); exact HO_9.out, by repeat (first | (with_reducible first | exact HB.out | apply below_alloc | apply pw_below_drewN | apply below_drew1) | exact HB.out)⟩

/-! ### arcaderef1_number: function 32 -/
def arcaderef1_number.l0 : Nat → List Bool → Int → Int → Option (Int)
  | 0, _, _, _ => none
  | k + 1, x0, x3, x4 => if x4 ≥ 0 then (if 0 ≤ x4 then (if x4 < (x0.length : Int) then (if rdOf false x0 x4 = true then (arcaderef1_number.l0 k x0 (wrap64 ((wrap64 (2 * x3)) + 1)) (wrap64 (x4 - 1))) else (arcaderef1_number.l0 k x0 (wrap64 (2 * x3)) (wrap64 (x4 - 1)))) else (none)) else (none)) else (some x3)
def arcaderef1_number.f (k : Nat) (l0 : List Bool) : Option (Int) := arcaderef1_number.l0 k l0 0 (wrap64 ((l0.length : Int) - 1))
theorem arcaderef1_number.mono_l : ∀ k, (∀ y0 y1 y2, LeO (arcaderef1_number.l0 k y0 y1 y2) (arcaderef1_number.l0 (k + 1) y0 y1 y2))
  | 0 => fun _ _ _ r h => by simp [arcaderef1_number.l0] at h
  | k + 1 => by
    have ih0 := arcaderef1_number.mono_l k
    · intro y0 y1 y2
      unfold arcaderef1_number.l0
      repeat' first
      | (with_reducible exact ih0 _ _ _)
      | (with_reducible exact LeO.refl _)
      | (with_reducible exact LeO.none _)
      | (with_reducible refine LeO.ite ?_ ?_)
      | (with_reducible refine LeO.bind ?_ (fun _ => ?_))
      | exact ih0 _ _ _
      | exact LeO.none _
      | refine LeO.ite ?_ ?_
      | refine LeO.bind ?_ (fun _ => ?_)
theorem arcaderef1_number.mono : ∀ a0 k, LeO (arcaderef1_number.f k a0) (arcaderef1_number.f (k + 1) a0) := by
  intro a0 k
  have ih0 := arcaderef1_number.mono_l k
  unfold arcaderef1_number.f
  repeat' first
      | (with_reducible exact ih0 _ _ _)
      | (with_reducible exact LeO.refl _)
      | (with_reducible exact LeO.none _)
      | (with_reducible refine LeO.ite ?_ ?_)
      | (with_reducible refine LeO.bind ?_ (fun _ => ?_))
      | exact ih0 _ _ _
      | exact LeO.none _
      | refine LeO.ite ?_ ?_
      | refine LeO.bind ?_ (fun _ => ?_)
set_option maxHeartbeats 8000000 in
set_option maxRecDepth 100000 in
theorem arcaderef1_number.calls (k : Nat) (A0 : Option Addr) (c0 : Nat) (l0 : List Bool) (r : Int) (w : World) (hr0 : Kd.C Kd.bool w A0 l0.length l0) (hc0 : l0.length ≤ c0) (h : arcaderef1_number.f k l0 = some r) :
    Calls Tryd.prog 32 #[.slice A0 l0.length c0] w fun e w' => e = .returned (.int .i64 r) ∧ Drawn0 w w' := by
  have HR0 := Aside0.mk hr0
  have HC0 := Aside0.mk hc0
  clear hr0 hc0
  have H : (arcaderef1_number.l0 k l0 0 (wrap64 ((l0.length : Int) - 1))) = some r := h
  clear h
  have H' := Aside0.mk H
  clear H
  go_enter Tryd.func32, Tryd.ntmps32
  go_wp2
  go_loopg [3, 4] k (fun kq v3 v4 w' => ∃ (x3_1 : Int) (x4_1 : Int), v3 = .int .i64 x3_1 ∧ v4 = .int .i64 x4_1 ∧ Aside0 (arcaderef1_number.l0 kq l0 x3_1 x4_1 = some r) ∧ Aside0 (kq ≤ k) ∧ Drawn0 w w')
  case atStart => exact ⟨(0), (wrap64 ((l0.length : Int) - 1)), (by first | rfl | (simp; done) | (simp [*]; done)), (by first | rfl | (simp; done) | (simp [*]; done)), H', ⟨Nat.le_refl _⟩, by repeat (first | exact Drawn0.refl _ | apply Drawn0.step)⟩
  case round =>
    clear H'
    obtain ⟨x3_1, x4_1, rfl, rfl, HA, HK1, ⟨m1, rfl⟩⟩ := hrel
    cases gk with
    | zero => exact absurd HA.out (by simp [arcaderef1_number.l0])
    | succ k1 =>
      have H := HA.out
      clear HA
      simp only [arcaderef1_number.l0] at H
      by_cases c2 : x4_1 ≥ 0
      · rw [if_pos c2] at H
        have c2b0 : decide (0 ≤ x4_1) = true := decide_eq_true c2
        clear c2
        by_cases c3 : 0 ≤ x4_1
        · rw [if_pos c3] at H
          have c3b0 : decide (0 ≤ x4_1) = true := decide_eq_true c3
          clear c3
          by_cases c4 : x4_1 < (l0.length : Int)
          · rw [if_pos c4] at H
            have c4b0 : decide (x4_1 < (l0.length : Int)) = true := decide_eq_true c4
            clear c4
            obtain ⟨bq5, hbq5⟩ : ∃ b_ : Bool, b_ = (rdOf false l0 x4_1) := ⟨_, rfl⟩
            replace H : (if bq5 = true then (arcaderef1_number.l0 k1 l0 (wrap64 ((wrap64 (2 * x3_1)) + 1)) (wrap64 (x4_1 - 1))) else (arcaderef1_number.l0 k1 l0 (wrap64 (2 * x3_1)) (wrap64 (x4_1 - 1)))) = some r := by rw [← hbq5] at H; exact H
            have Nbq5 := Aside0.mk hbq5
            clear hbq5
            by_cases c6 : bq5 = true
            · subst c6
              have H1 : (arcaderef1_number.l0 k1 l0 (wrap64 ((wrap64 (2 * x3_1)) + 1)) (wrap64 (x4_1 - 1))) = some r := by rw [if_pos rfl] at H; exact H
              clear H
              have H := H1
              clear H1
              have H' := Aside0.mk H
              clear H
              have p130 : 0 ≤ (x4_1 : Int) := of_decide_eq_true (by first | (with_reducible assumption) | assumption)
              have q130 : x4_1 < (l0.length : Int) := of_decide_eq_true (by first | (with_reducible assumption) | assumption)
              obtain ⟨ad130, e130, hx130_0⟩ := Kd.at_bool HR0.out x4_1 p130 q130
              (try rw [← Nbq5.out] at hx130_0)
              cases e130
              replace p130 := eq_true p130
              replace q130 := eq_true q130
              go_wp2
              go_roundg k1
              case measure => have := HK1.out; omega
              case rel => exact ⟨(wrap64 ((wrap64 (2 * x3_1)) + 1)), (wrap64 (x4_1 - 1)), (by first | rfl | (simp; done) | (simp [*]; done)), (by first | rfl | (simp; done) | (simp [*]; done)), H', ⟨by have := HK1.out; omega⟩, by repeat (first | exact Drawn0.refl _ | apply Drawn0.step)⟩
            · replace c6 := Bool.eq_false_iff.mpr c6
              subst c6
              have H1 : (arcaderef1_number.l0 k1 l0 (wrap64 (2 * x3_1)) (wrap64 (x4_1 - 1))) = some r := by rw [if_neg (show ¬ (false = true) by decide)] at H; exact H
              clear H
              have H := H1
              clear H1
              have H' := Aside0.mk H
              clear H
              have p130 : 0 ≤ (x4_1 : Int) := of_decide_eq_true (by first | (with_reducible assumption) | assumption)
              have q130 : x4_1 < (l0.length : Int) := of_decide_eq_true (by first | (with_reducible assumption) | assumption)
              obtain ⟨ad130, e130, hx130_0⟩ := Kd.at_bool HR0.out x4_1 p130 q130
              (try rw [← Nbq5.out] at hx130_0)
              cases e130
              replace p130 := eq_true p130
              replace q130 := eq_true q130
              go_wp2
              go_roundg k1
              case measure => have := HK1.out; omega
              case rel => exact ⟨(wrap64 (2 * x3_1)), (wrap64 (x4_1 - 1)), (by first | rfl | (simp; done) | (simp [*]; done)), (by first | rfl | (simp; done) | (simp [*]; done)), H', ⟨by have := HK1.out; omega⟩, by repeat (first | exact Drawn0.refl _ | apply Drawn0.step)⟩
          · rw [if_neg c4] at H
            exact absurd H (by simp)
        · rw [if_neg c3] at H
          exact absurd H (by simp)
      · rw [if_neg c2] at H
        have c2b0 : decide (0 ≤ x4_1) = false := decide_eq_false c2
        clear c2
        obtain rfl := Option.some.inj H
        go_wp2
        go_ret
        exact ⟨by first | rfl | (simp; done) | (simp [*]; done), by repeat (first | exact Drawn0.refl _ | apply Drawn0.step)⟩

/-! ### arcaderef1_flags: function 33 -/
mutual
def arcaderef1_flags.j0 : Nat → Bool → Bool → Bool → Int → Option (Int)
  | 0, _, _, _, _ => none
  | k + 1, x1, x2, x3, x9 => if x1 = true then (arcaderef1_flags.j1 k x2 x3 ((x9 + 64) % 256)) else (arcaderef1_flags.j1 k x2 x3 x9)
def arcaderef1_flags.j1 : Nat → Bool → Bool → Int → Option (Int)
  | 0, _, _, _ => none
  | k + 1, x2, x3, x9 => if x2 = true then (if x3 = true then (some ((((x9 + 32) % 256) + 16) % 256)) else (some ((x9 + 32) % 256))) else (if x3 = true then (some ((x9 + 16) % 256)) else (some x9))
end
def arcaderef1_flags.f (k : Nat) (a0 : Bool) (a1 : Bool) (a2 : Bool) (a3 : Bool) : Option (Int) := if a0 = true then (arcaderef1_flags.j0 k a1 a2 a3 (0 + 128)) else (arcaderef1_flags.j0 k a1 a2 a3 0)
theorem arcaderef1_flags.mono_l : ∀ k, (∀ y0 y1 y2 y3, LeO (arcaderef1_flags.j0 k y0 y1 y2 y3) (arcaderef1_flags.j0 (k + 1) y0 y1 y2 y3)) ∧ (∀ y0 y1 y2, LeO (arcaderef1_flags.j1 k y0 y1 y2) (arcaderef1_flags.j1 (k + 1) y0 y1 y2))
  | 0 => ⟨fun _ _ _ _ r h => by simp [arcaderef1_flags.j0] at h, fun _ _ _ r h => by simp [arcaderef1_flags.j1] at h⟩
  | k + 1 => by
    obtain ⟨ih0, ih1⟩ := arcaderef1_flags.mono_l k
    refine ⟨?_, ?_⟩
    · intro y0 y1 y2 y3
      unfold arcaderef1_flags.j0
      repeat' first
      | (with_reducible exact ih0 _ _ _ _)
      | (with_reducible exact ih1 _ _ _)
      | (with_reducible exact LeO.refl _)
      | (with_reducible exact LeO.none _)
      | (with_reducible refine LeO.ite ?_ ?_)
      | (with_reducible refine LeO.bind ?_ (fun _ => ?_))
      | exact ih0 _ _ _ _
      | exact ih1 _ _ _
      | exact LeO.none _
      | refine LeO.ite ?_ ?_
      | refine LeO.bind ?_ (fun _ => ?_)
    · intro y0 y1 y2
      unfold arcaderef1_flags.j1
      repeat' first
      | (with_reducible exact ih0 _ _ _ _)
      | (with_reducible exact ih1 _ _ _)
      | (with_reducible exact LeO.refl _)
      | (with_reducible exact LeO.none _)
      | (with_reducible refine LeO.ite ?_ ?_)
      | (with_reducible refine LeO.bind ?_ (fun _ => ?_))
      | exact ih0 _ _ _ _
      | exact ih1 _ _ _
      | exact LeO.none _
      | refine LeO.ite ?_ ?_
      | refine LeO.bind ?_ (fun _ => ?_)
theorem arcaderef1_flags.mono : ∀ a0 a1 a2 a3 k, LeO (arcaderef1_flags.f k a0 a1 a2 a3) (arcaderef1_flags.f (k + 1) a0 a1 a2 a3) := by
  intro a0 a1 a2 a3 k
  obtain ⟨ih0, ih1⟩ := arcaderef1_flags.mono_l k
  unfold arcaderef1_flags.f
  repeat' first
      | (with_reducible exact ih0 _ _ _ _)
      | (with_reducible exact ih1 _ _ _)
      | (with_reducible exact LeO.refl _)
      | (with_reducible exact LeO.none _)
      | (with_reducible refine LeO.ite ?_ ?_)
      | (with_reducible refine LeO.bind ?_ (fun _ => ?_))
      | exact ih0 _ _ _ _
      | exact ih1 _ _ _
      | exact LeO.none _
      | refine LeO.ite ?_ ?_
      | refine LeO.bind ?_ (fun _ => ?_)
set_option maxHeartbeats 8000000 in
set_option maxRecDepth 100000 in
theorem arcaderef1_flags.calls (k : Nat) (a0 : Bool) (a1 : Bool) (a2 : Bool) (a3 : Bool) (r : Int) (w : World) (h : arcaderef1_flags.f k a0 a1 a2 a3 = some r) :
    Calls Tryd.prog 33 #[.bool a0, .bool a1, .bool a2, .bool a3] w fun e w' => e = .returned (.int .u8 r) ∧ Drawn0 w w' := by
  have H : (if a0 = true then (arcaderef1_flags.j0 k a1 a2 a3 (0 + 128)) else (arcaderef1_flags.j0 k a1 a2 a3 0)) = some r := h
  clear h
  have HC5 := Aside0.mk H
  clear H
  go_enter Tryd.func33, Tryd.ntmps33
  go_upto_if 10 with (fail)
  go_cut [9] (fun v9 wc => ∃ (kq : Nat) (x9_4 : Int), v9 = .int .u8 x9_4 ∧ Aside0 (arcaderef1_flags.j0 kq a1 a2 a3 x9_4 = some r) ∧ Aside0 (kq ≤ k) ∧ Drawn0 w wc)
  case first =>
    have H := HC5.out
    clear HC5
    by_cases c6 : a0 = true
    · subst c6
      have H1 : (arcaderef1_flags.j0 k a1 a2 a3 (0 + 128)) = some r := by rw [if_pos rfl] at H; exact H
      clear H
      have H := H1
      clear H1
      have H' := Aside0.mk H
      clear H
      go_wp2
      go_meet
      case rel => exact ⟨_, (0 + 128), (by first | rfl | (simp; done) | (simp [*]; done)), H', ⟨by first | omega | exact Nat.le_refl _⟩, by repeat (first | exact Drawn0.refl _ | apply Drawn0.step)⟩
    · replace c6 := Bool.eq_false_iff.mpr c6
      subst c6
      have H1 : (arcaderef1_flags.j0 k a1 a2 a3 0) = some r := by rw [if_neg (show ¬ (false = true) by decide)] at H; exact H
      clear H
      have H := H1
      clear H1
      have H' := Aside0.mk H
      clear H
      go_wp2
      go_meet
      case rel => exact ⟨_, (0), (by first | rfl | (simp; done) | (simp [*]; done)), H', ⟨by first | omega | exact Nat.le_refl _⟩, by repeat (first | exact Drawn0.refl _ | apply Drawn0.step)⟩
  case rest =>
    clear HC5
    try clear p2
    try clear c3
    try clear c6
    obtain ⟨kq, x9_4, rfl, HA, HJ4, ⟨mc4, rfl⟩⟩ := hcut
    cases kq with
    | zero => exact absurd HA.out (by simp [arcaderef1_flags.j0])
    | succ kj4 =>
      have H := HA.out
      clear HA
      simp only [arcaderef1_flags.j0] at H
      have HC7 := Aside0.mk H
      clear H
      go_upto_if 13 with (fail)
      go_cut [9] (fun v9 wc => ∃ (kq : Nat) (x9_6 : Int), v9 = .int .u8 x9_6 ∧ Aside0 (arcaderef1_flags.j1 kq a2 a3 x9_6 = some r) ∧ Aside0 (kq ≤ kj4) ∧ Drawn0 w wc)
      case first =>
        have H := HC7.out
        clear HC7
        by_cases c8 : a1 = true
        · subst c8
          have H1 : (arcaderef1_flags.j1 kj4 a2 a3 ((x9_4 + 64) % 256)) = some r := by rw [if_pos rfl] at H; exact H
          clear H
          have H := H1
          clear H1
          have H' := Aside0.mk H
          clear H
          go_wp2
          go_meet
          case rel => exact ⟨_, ((x9_4 + 64) % 256), (by first | rfl | (simp; done) | (simp [*]; done)), H', ⟨by have := HJ4.out; first | omega | exact Nat.le_refl _⟩, by repeat (first | exact Drawn0.refl _ | apply Drawn0.step)⟩
        · replace c8 := Bool.eq_false_iff.mpr c8
          subst c8
          have H1 : (arcaderef1_flags.j1 kj4 a2 a3 x9_4) = some r := by rw [if_neg (show ¬ (false = true) by decide)] at H; exact H
          clear H
          have H := H1
          clear H1
          have H' := Aside0.mk H
          clear H
          go_wp2
          go_meet
          case rel => exact ⟨_, (x9_4), (by first | rfl | (simp; done) | (simp [*]; done)), H', ⟨by have := HJ4.out; first | omega | exact Nat.le_refl _⟩, by repeat (first | exact Drawn0.refl _ | apply Drawn0.step)⟩
      case rest =>
        clear HC7
        try clear p2
        try clear c3
        try clear c4
        try clear c6
        try clear c8
        try clear p2
        obtain ⟨kq, x9_6, rfl, HA, HJ6, ⟨mc6, rfl⟩⟩ := hcut
        cases kq with
        | zero => exact absurd HA.out (by simp [arcaderef1_flags.j1])
        | succ kj6 =>
          have H := HA.out
          clear HA
          simp only [arcaderef1_flags.j1] at H
          by_cases c9 : a2 = true
          · subst c9
            have H1 : (if a3 = true then (some ((((x9_6 + 32) % 256) + 16) % 256)) else (some ((x9_6 + 32) % 256))) = some r := by rw [if_pos rfl] at H; exact H
            clear H
            have H := H1
            clear H1
            by_cases c10 : a3 = true
            · subst c10
              have H1 : (some ((((x9_6 + 32) % 256) + 16) % 256)) = some r := by rw [if_pos rfl] at H; exact H
              clear H
              have H := H1
              clear H1
              obtain rfl := Option.some.inj H
              go_wp2
              go_ret
              exact ⟨by first | rfl | (simp; done) | (simp [*]; done), by repeat (first | exact Drawn0.refl _ | apply Drawn0.step)⟩
            · replace c10 := Bool.eq_false_iff.mpr c10
              subst c10
              have H1 : (some ((x9_6 + 32) % 256)) = some r := by rw [if_neg (show ¬ (false = true) by decide)] at H; exact H
              clear H
              have H := H1
              clear H1
              obtain rfl := Option.some.inj H
              go_wp2
              go_ret
              exact ⟨by first | rfl | (simp; done) | (simp [*]; done), by repeat (first | exact Drawn0.refl _ | apply Drawn0.step)⟩
          · replace c9 := Bool.eq_false_iff.mpr c9
            subst c9
            have H1 : (if a3 = true then (some ((x9_6 + 16) % 256)) else (some x9_6)) = some r := by rw [if_neg (show ¬ (false = true) by decide)] at H; exact H
            clear H
            have H := H1
            clear H1
            by_cases c11 : a3 = true
            · subst c11
              have H1 : (some ((x9_6 + 16) % 256)) = some r := by rw [if_pos rfl] at H; exact H
              clear H
              have H := H1
              clear H1
              obtain rfl := Option.some.inj H
              go_wp2
              go_ret
              exact ⟨by first | rfl | (simp; done) | (simp [*]; done), by repeat (first | exact Drawn0.refl _ | apply Drawn0.step)⟩
            · replace c11 := Bool.eq_false_iff.mpr c11
              subst c11
              have H1 : (some x9_6) = some r := by rw [if_neg (show ¬ (false = true) by decide)] at H; exact H
              clear H
              have H := H1
              clear H1
              obtain rfl := Option.some.inj H
              go_wp2
              go_ret
              exact ⟨by first | rfl | (simp; done) | (simp [*]; done), by repeat (first | exact Drawn0.refl _ | apply Drawn0.step)⟩

end Go.Proofs.YtpkogmcafgplgaaDoor.PAluExact
