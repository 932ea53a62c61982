-- written by a program of this session (printx) out of the print of the given program
import Derived.Test.YtpkogmcafgplgaaDoorPAluExactx0
namespace Go.Proofs.YtpkogmcafgplgaaDoor.PAluExact
open Go.RowKit Go.Proofs.YtpkogmcafgplgaaDoorW.PrintWords Go.Proofs.YtpkogmcafgplgaaDoorW.PrintLast Go.Proofs.YtpkogmcafgplgaaDoorW.PrintMore
attribute [local go_sem] max2_int min2_int max_two min_two max_three min_three max_four min_four   -- for this text's walks alone
set_option linter.unusedVariables false
set_option linter.unusedSimpArgs false

/-! ### arcaderef1_less: function 34 -/
mutual
def arcaderef1_less.l0 : Nat → List Bool → List Bool → Bool → List Bool → List Bool → Int → Option (List Bool × List Bool)
  | 0, _, _, _, _, _, _ => none
  | k + 1, x0, x1, x2, x8, x9, x10 => if x10 < (x0.length : Int) then (if 0 ≤ x10 then (if rdOf false x0 x10 = true then (arcaderef1_less.j1 k x0 x1 x2 x8 x9 x10 (0 + 1)) else (arcaderef1_less.j1 k x0 x1 x2 x8 x9 x10 0)) else (none)) else (some (x8, x9))
def arcaderef1_less.j1 : Nat → List Bool → List Bool → Bool → List Bool → List Bool → Int → Int → Option (List Bool × List Bool)
  | 0, _, _, _, _, _, _, _ => none
  | k + 1, x0, x1, x2, x8, x9, x10, x11 => if 0 ≤ x10 then (if x10 < (x1.length : Int) then (if rdOf false x1 x10 = true then (if x2 = true then (if (wrap64 ((wrap64 (x11 - 1)) - 1)) = 1 then (if x8.length < 140737488355328 then (if x9.length < 140737488355328 then (arcaderef1_less.l0 k x0 x1 (decide ((wrap64 ((wrap64 (x11 - 1)) - 1)) < 0)) (x8 ++ [true]) (x9 ++ [decide ((wrap64 ((wrap64 (x11 - 1)) - 1)) < 0)]) (wrap64 (x10 + 1))) else (none)) else (none)) else (if x8.length < 140737488355328 then (if x9.length < 140737488355328 then (arcaderef1_less.l0 k x0 x1 (decide ((wrap64 ((wrap64 (x11 - 1)) - 1)) < 0)) (x8 ++ [((wrap64 ((wrap64 (x11 - 1)) - 1)) == (-1))]) (x9 ++ [decide ((wrap64 ((wrap64 (x11 - 1)) - 1)) < 0)]) (wrap64 (x10 + 1))) else (none)) else (none))) else (if (wrap64 (x11 - 1)) = 1 then (if x8.length < 140737488355328 then (if x9.length < 140737488355328 then (arcaderef1_less.l0 k x0 x1 (decide ((wrap64 (x11 - 1)) < 0)) (x8 ++ [true]) (x9 ++ [decide ((wrap64 (x11 - 1)) < 0)]) (wrap64 (x10 + 1))) else (none)) else (none)) else (if x8.length < 140737488355328 then (if x9.length < 140737488355328 then (arcaderef1_less.l0 k x0 x1 (decide ((wrap64 (x11 - 1)) < 0)) (x8 ++ [((wrap64 (x11 - 1)) == (-1))]) (x9 ++ [decide ((wrap64 (x11 - 1)) < 0)]) (wrap64 (x10 + 1))) else (none)) else (none)))) else (if x2 = true then (if (wrap64 (x11 - 1)) = 1 then (if x8.length < 140737488355328 then (if x9.length < 140737488355328 then (arcaderef1_less.l0 k x0 x1 (decide ((wrap64 (x11 - 1)) < 0)) (x8 ++ [true]) (x9 ++ [decide ((wrap64 (x11 - 1)) < 0)]) (wrap64 (x10 + 1))) else (none)) else (none)) else (if x8.length < 140737488355328 then (if x9.length < 140737488355328 then (arcaderef1_less.l0 k x0 x1 (decide ((wrap64 (x11 - 1)) < 0)) (x8 ++ [((wrap64 (x11 - 1)) == (-1))]) (x9 ++ [decide ((wrap64 (x11 - 1)) < 0)]) (wrap64 (x10 + 1))) else (none)) else (none))) else (if x11 = 1 then (if x8.length < 140737488355328 then (if x9.length < 140737488355328 then (arcaderef1_less.l0 k x0 x1 (decide (x11 < 0)) (x8 ++ [true]) (x9 ++ [decide (x11 < 0)]) (wrap64 (x10 + 1))) else (none)) else (none)) else (if x8.length < 140737488355328 then (if x9.length < 140737488355328 then (arcaderef1_less.l0 k x0 x1 (decide (x11 < 0)) (x8 ++ [(x11 == (-1))]) (x9 ++ [decide (x11 < 0)]) (wrap64 (x10 + 1))) else (none)) else (none))))) else (none)) else (none)
end
def arcaderef1_less.f (k : Nat) (l0 : List Bool) (l1 : List Bool) (a2 : Bool) : Option (List Bool × List Bool) := arcaderef1_less.l0 k l0 l1 a2 ([] : List Bool) ([] : List Bool) 0
theorem arcaderef1_less.mono_l : ∀ k, (∀ y0 y1 y2 y3 y4 y5, LeO (arcaderef1_less.l0 k y0 y1 y2 y3 y4 y5) (arcaderef1_less.l0 (k + 1) y0 y1 y2 y3 y4 y5)) ∧ (∀ y0 y1 y2 y3 y4 y5 y6, LeO (arcaderef1_less.j1 k y0 y1 y2 y3 y4 y5 y6) (arcaderef1_less.j1 (k + 1) y0 y1 y2 y3 y4 y5 y6))
  | 0 => ⟨fun _ _ _ _ _ _ r h => by simp [arcaderef1_less.l0] at h, fun _ _ _ _ _ _ _ r h => by simp [arcaderef1_less.j1] at h⟩
  | k + 1 => by
    obtain ⟨ih0, ih1⟩ := arcaderef1_less.mono_l k
    refine ⟨?_, ?_⟩
    · intro y0 y1 y2 y3 y4 y5
      unfold arcaderef1_less.l0
      repeat' first
      | (with_reducible exact ih0 _ _ _ _ _ _)
      | (with_reducible exact ih1 _ _ _ _ _ _ _)
      | (with_reducible exact LeO.refl _)
      | (with_reducible exact LeO.none _)
      | (with_reducible refine LeO.ite ?_ ?_)
      | (with_reducible refine LeO.bind ?_ (fun _ => ?_))
      | exact ih0 _ _ _ _ _ _
      | exact ih1 _ _ _ _ _ _ _
      | exact LeO.none _
      | refine LeO.ite ?_ ?_
      | refine LeO.bind ?_ (fun _ => ?_)
    · intro y0 y1 y2 y3 y4 y5 y6
      unfold arcaderef1_less.j1
      repeat' first
      | (with_reducible exact ih0 _ _ _ _ _ _)
      | (with_reducible exact ih1 _ _ _ _ _ _ _)
      | (with_reducible exact LeO.refl _)
      | (with_reducible exact LeO.none _)
      | (with_reducible refine LeO.ite ?_ ?_)
      | (with_reducible refine LeO.bind ?_ (fun _ => ?_))
      | exact ih0 _ _ _ _ _ _
      | exact ih1 _ _ _ _ _ _ _
      | exact LeO.none _
      | refine LeO.ite ?_ ?_
      | refine LeO.bind ?_ (fun _ => ?_)
theorem arcaderef1_less.mono : ∀ a0 a1 a2 k, LeO (arcaderef1_less.f k a0 a1 a2) (arcaderef1_less.f (k + 1) a0 a1 a2) := by
  intro a0 a1 a2 k
  obtain ⟨ih0, ih1⟩ := arcaderef1_less.mono_l k
  unfold arcaderef1_less.f
  repeat' first
      | (with_reducible exact ih0 _ _ _ _ _ _)
      | (with_reducible exact ih1 _ _ _ _ _ _ _)
      | (with_reducible exact LeO.refl _)
      | (with_reducible exact LeO.none _)
      | (with_reducible refine LeO.ite ?_ ?_)
      | (with_reducible refine LeO.bind ?_ (fun _ => ?_))
      | exact ih0 _ _ _ _ _ _
      | exact ih1 _ _ _ _ _ _ _
      | exact LeO.none _
      | refine LeO.ite ?_ ?_
      | refine LeO.bind ?_ (fun _ => ?_)
set_option maxHeartbeats 8000000 in
set_option maxRecDepth 100000 in
theorem arcaderef1_less.calls (k : Nat) (A0 : Option Addr) (c0 : Nat) (l0 : List Bool) (A1 : Option Addr) (c1 : Nat) (l1 : List Bool) (a2 : Bool) (r1 : List Bool) (r2 : List Bool) (w : World) (hr0 : Kd.C Kd.bool w A0 l0.length l0) (hc0 : l0.length ≤ c0) (hr1 : Kd.C Kd.bool w A1 l1.length l1) (hc1 : l1.length ≤ c1) (h : arcaderef1_less.f k l0 l1 a2 = some (r1, r2)) :
    Calls Tryd.prog 34 #[.slice A0 l0.length c0, .slice A1 l1.length c1, .bool a2] w fun e w' => ∃ v0_ v1_ : Value, e = .returned (.tuple #[v0_, v1_]) ∧ Kd.R Kd.bool 4 w' w.heap.size (fun k_ => some k_ ≠ (v1_ : Value).ownBlock) v0_ r1 ∧ Kd.R Kd.bool 4 w' w.heap.size (fun k_ => some k_ ≠ (v0_ : Value).ownBlock) v1_ r2 ∧ Below w.heap.size w w' := by
  have HR0 := Aside0.mk hr0
  have HC0 := Aside0.mk hc0
  clear hr0 hc0
  have HR1 := Aside0.mk hr1
  have HC1 := Aside0.mk hc1
  clear hr1 hc1
  have HB := Aside0.mk (Below.refl w.heap.size w)
  have H : (arcaderef1_less.l0 k l0 l1 a2 ([] : List Bool) ([] : List Bool) 0) = some (r1, r2) := h
  clear h
  have H' := Aside0.mk H
  clear H
  go_enter Tryd.func34, Tryd.ntmps34
  go_wp2
  go_loopg [2, 8, 9, 10] k (fun kq v2 v8 v9 v10 w' => ∃ (x2_1 : Bool) (x8_1 : List Bool) (x9_1 : List Bool) (x10_1 : Int), v2 = .bool x2_1 ∧ v10 = .int .i64 x10_1 ∧ Aside0 (arcaderef1_less.l0 kq l0 l1 x2_1 x8_1 x9_1 x10_1 = some (r1, r2)) ∧ Aside0 (kq ≤ k) ∧ Aside0 (Kd.R Kd.bool 4 w' w.heap.size (fun k_ => some k_ ≠ (v9 : Value).ownBlock) v8 x8_1) ∧ Aside0 (Kd.R Kd.bool 4 w' w.heap.size (fun k_ => some k_ ≠ (v8 : Value).ownBlock) v9 x9_1) ∧ Aside0 (Below w.heap.size w w'))
  case atStart => exact ⟨(a2), (([] : List Bool)), (([] : List Bool)), (0), (by first | rfl | (simp; done) | (simp [*]; done)), (by first | rfl | (simp; done) | (simp [*]; done)), H', ⟨Nat.le_refl _⟩, ⟨by first | exact Kd.R_nil _ _ _ _ _ | exact Kd.N_nil _ _ _ _ _ | exact Kd.V_nil _ _ _ _ _ | exact Kd.Q_nil _ _ _ _ _ | exact Kd.S_nil _ _ _ _ _⟩, ⟨by first | exact Kd.R_nil _ _ _ _ _ | exact Kd.N_nil _ _ _ _ _ | exact Kd.V_nil _ _ _ _ _ | exact Kd.Q_nil _ _ _ _ _ | exact Kd.S_nil _ _ _ _ _⟩, ⟨by repeat (first | (with_reducible first | exact HB.out | apply below_alloc | apply pw_below_drewN | apply below_drew1) | exact HB.out)⟩⟩
  case round =>
    clear H'
    try clear c1
    try clear p2
    try clear c3
    obtain ⟨x2_1, x8_1, x9_1, x10_1, rfl, rfl, HA, HK1, HO_8, HO_9, HB⟩ := hrel
    cases gk with
    | zero => exact absurd HA.out (by simp [arcaderef1_less.l0])
    | succ k1 =>
      have H := HA.out
      clear HA
      simp only [arcaderef1_less.l0] at H
      by_cases c4 : x10_1 < (l0.length : Int)
      · rw [if_pos c4] at H
        have c4b0 : decide (x10_1 < (l0.length : Int)) = true := decide_eq_true c4
        clear c4
        by_cases c5 : 0 ≤ x10_1
        · rw [if_pos c5] at H
          have c5b0 : decide (0 ≤ x10_1) = true := decide_eq_true c5
          clear c5
          have HC6 := Aside0.mk H
          clear H
          have p131 : 0 ≤ (x10_1 : Int) := of_decide_eq_true (by first | (with_reducible assumption) | assumption)
          have q131 : x10_1 < (l0.length : Int) := of_decide_eq_true (by first | (with_reducible assumption) | assumption)
          obtain ⟨ad131, e131, hx131_0⟩ := Kd.at_bool HR0.out x10_1 p131 q131
          cases e131
          replace hx131_0 := (HB.out.cell (World.block_lt_of_cell? w _ hx131_0)).trans hx131_0
          replace p131 := eq_true p131
          replace q131 := eq_true q131
          go_upto_if 21 with (fail)
          go_cut [11] (fun v11 wc => ∃ (kq : Nat) (x11_5 : Int), v11 = .int .i64 x11_5 ∧ Aside0 (arcaderef1_less.j1 kq l0 l1 x2_1 x8_1 x9_1 x10_1 x11_5 = some (r1, r2)) ∧ Aside0 (kq ≤ k1) ∧ Aside0 (Kd.R Kd.bool 4 wc w.heap.size (fun k_ => some k_ ≠ (u9 : Value).ownBlock) u8 x8_1) ∧ Aside0 (Kd.R Kd.bool 4 wc w.heap.size (fun k_ => some k_ ≠ (u8 : Value).ownBlock) u9 x9_1) ∧ Aside0 (Below w.heap.size w wc))
          case first =>
            have H := HC6.out
            clear HC6
            obtain ⟨bq7, hbq7⟩ : ∃ b_ : Bool, b_ = (rdOf false l0 x10_1) := ⟨_, rfl⟩
            replace H : (if bq7 = true then (arcaderef1_less.j1 k1 l0 l1 x2_1 x8_1 x9_1 x10_1 (0 + 1)) else (arcaderef1_less.j1 k1 l0 l1 x2_1 x8_1 x9_1 x10_1 0)) = some (r1, r2) := by rw [← hbq7] at H; exact H
            have Nbq7 := Aside0.mk hbq7
            clear hbq7
            (try rw [← Nbq7.out])
            by_cases c8 : bq7 = true
            · subst c8
              have H1 : (arcaderef1_less.j1 k1 l0 l1 x2_1 x8_1 x9_1 x10_1 (0 + 1)) = some (r1, r2) := by rw [if_pos rfl] at H; exact H
              clear H
              have H := H1
              clear H1
              have H' := Aside0.mk H
              clear H
              go_wp2
              go_meet
              case rel => exact ⟨_, (0 + 1), (by first | rfl | (simp; done) | (simp [*]; done)), H', ⟨by have := HK1.out; first | omega | exact Nat.le_refl _⟩, ⟨by (with_reducible repeat (first | apply Kd.R_alloc | apply Kd.R_drewN | apply Kd.R_drew)); exact HO_8.out⟩, ⟨by (with_reducible repeat (first | apply Kd.R_alloc | apply Kd.R_drewN | apply Kd.R_drew)); exact HO_9.out⟩, ⟨by repeat (first | (with_reducible first | exact HB.out | apply below_alloc | apply pw_below_drewN | apply below_drew1) | exact HB.out)⟩⟩
            · replace c8 := Bool.eq_false_iff.mpr c8
              subst c8
              have H1 : (arcaderef1_less.j1 k1 l0 l1 x2_1 x8_1 x9_1 x10_1 0) = some (r1, r2) := by rw [if_neg (show ¬ (false = true) by decide)] at H; exact H
              clear H
              have H := H1
              clear H1
              have H' := Aside0.mk H
              clear H
              go_wp2
              go_meet
              case rel => exact ⟨_, (0), (by first | rfl | (simp; done) | (simp [*]; done)), H', ⟨by have := HK1.out; first | omega | exact Nat.le_refl _⟩, ⟨by (with_reducible repeat (first | apply Kd.R_alloc | apply Kd.R_drewN | apply Kd.R_drew)); exact HO_8.out⟩, ⟨by (with_reducible repeat (first | apply Kd.R_alloc | apply Kd.R_drewN | apply Kd.R_drew)); exact HO_9.out⟩, ⟨by repeat (first | (with_reducible first | exact HB.out | apply below_alloc | apply pw_below_drewN | apply below_drew1) | exact HB.out)⟩⟩
          case rest =>
            clear HC6
            try clear c1
            try clear p1
            try clear q1
            try clear hx1
            try clear p2
            try clear c3
            try clear c4
            try clear c4b0
            try clear c5
            try clear c5b0
            try clear q7
            try clear c8
            try clear hx131_0
            try clear p131
            try clear p2
            try clear q131
            obtain ⟨kq, x11_5, rfl, HA, HJ5, HO_8, HO_9, HB⟩ := hcut
            cases kq with
            | zero => exact absurd HA.out (by simp [arcaderef1_less.j1])
            | succ kj5 =>
              have H := HA.out
              clear HA
              simp only [arcaderef1_less.j1] at H
              by_cases c9 : 0 ≤ x10_1
              · rw [if_pos c9] at H
                have c9b0 : decide (0 ≤ x10_1) = true := decide_eq_true c9
                clear c9
                by_cases c10 : x10_1 < (l1.length : Int)
                · rw [if_pos c10] at H
                  have c10b0 : decide (x10_1 < (l1.length : Int)) = true := decide_eq_true c10
                  clear c10
                  obtain ⟨bq11, hbq11⟩ : ∃ b_ : Bool, b_ = (rdOf false l1 x10_1) := ⟨_, rfl⟩
                  replace H : (if bq11 = true then (if x2_1 = true then (if (wrap64 ((wrap64 (x11_5 - 1)) - 1)) = 1 then (if x8_1.length < 140737488355328 then (if x9_1.length < 140737488355328 then (arcaderef1_less.l0 kj5 l0 l1 (decide ((wrap64 ((wrap64 (x11_5 - 1)) - 1)) < 0)) (x8_1 ++ [true]) (x9_1 ++ [decide ((wrap64 ((wrap64 (x11_5 - 1)) - 1)) < 0)]) (wrap64 (x10_1 + 1))) else (none)) else (none)) else (if x8_1.length < 140737488355328 then (if x9_1.length < 140737488355328 then (arcaderef1_less.l0 kj5 l0 l1 (decide ((wrap64 ((wrap64 (x11_5 - 1)) - 1)) < 0)) (x8_1 ++ [((wrap64 ((wrap64 (x11_5 - 1)) - 1)) == (-1))]) (x9_1 ++ [decide ((wrap64 ((wrap64 (x11_5 - 1)) - 1)) < 0)]) (wrap64 (x10_1 + 1))) else (none)) else (none))) else (if (wrap64 (x11_5 - 1)) = 1 then (if x8_1.length < 140737488355328 then (if x9_1.length < 140737488355328 then (arcaderef1_less.l0 kj5 l0 l1 (decide ((wrap64 (x11_5 - 1)) < 0)) (x8_1 ++ [true]) (x9_1 ++ [decide ((wrap64 (x11_5 - 1)) < 0)]) (wrap64 (x10_1 + 1))) else (none)) else (none)) else (if x8_1.length < 140737488355328 then (if x9_1.length < 140737488355328 then (arcaderef1_less.l0 kj5 l0 l1 (decide ((wrap64 (x11_5 - 1)) < 0)) (x8_1 ++ [((wrap64 (x11_5 - 1)) == (-1))]) (x9_1 ++ [decide ((wrap64 (x11_5 - 1)) < 0)]) (wrap64 (x10_1 + 1))) else (none)) else (none)))) else (if x2_1 = true then (if (wrap64 (x11_5 - 1)) = 1 then (if x8_1.length < 140737488355328 then (if x9_1.length < 140737488355328 then (arcaderef1_less.l0 kj5 l0 l1 (decide ((wrap64 (x11_5 - 1)) < 0)) (x8_1 ++ [true]) (x9_1 ++ [decide ((wrap64 (x11_5 - 1)) < 0)]) (wrap64 (x10_1 + 1))) else (none)) else (none)) else (if x8_1.length < 140737488355328 then (if x9_1.length < 140737488355328 then (arcaderef1_less.l0 kj5 l0 l1 (decide ((wrap64 (x11_5 - 1)) < 0)) (x8_1 ++ [((wrap64 (x11_5 - 1)) == (-1))]) (x9_1 ++ [decide ((wrap64 (x11_5 - 1)) < 0)]) (wrap64 (x10_1 + 1))) else (none)) else (none))) else (if x11_5 = 1 then (if x8_1.length < 140737488355328 then (if x9_1.length < 140737488355328 then (arcaderef1_less.l0 kj5 l0 l1 (decide (x11_5 < 0)) (x8_1 ++ [true]) (x9_1 ++ [decide (x11_5 < 0)]) (wrap64 (x10_1 + 1))) else (none)) else (none)) else (if x8_1.length < 140737488355328 then (if x9_1.length < 140737488355328 then (arcaderef1_less.l0 kj5 l0 l1 (decide (x11_5 < 0)) (x8_1 ++ [(x11_5 == (-1))]) (x9_1 ++ [decide (x11_5 < 0)]) (wrap64 (x10_1 + 1))) else (none)) else (none))))) = some (r1, r2) := by rw [← hbq11] at H; exact H
                  have Nbq11 := Aside0.mk hbq11
                  clear hbq11
                  by_cases c12 : bq11 = true
                  · subst c12
                    have H1 : (if x2_1 = true then (if (wrap64 ((wrap64 (x11_5 - 1)) - 1)) = 1 then (if x8_1.length < 140737488355328 then (if x9_1.length < 140737488355328 then (arcaderef1_less.l0 kj5 l0 l1 (decide ((wrap64 ((wrap64 (x11_5 - 1)) - 1)) < 0)) (x8_1 ++ [true]) (x9_1 ++ [decide ((wrap64 ((wrap64 (x11_5 - 1)) - 1)) < 0)]) (wrap64 (x10_1 + 1))) else (none)) else (none)) else (if x8_1.length < 140737488355328 then (if x9_1.length < 140737488355328 then (arcaderef1_less.l0 kj5 l0 l1 (decide ((wrap64 ((wrap64 (x11_5 - 1)) - 1)) < 0)) (x8_1 ++ [((wrap64 ((wrap64 (x11_5 - 1)) - 1)) == (-1))]) (x9_1 ++ [decide ((wrap64 ((wrap64 (x11_5 - 1)) - 1)) < 0)]) (wrap64 (x10_1 + 1))) else (none)) else (none))) else (if (wrap64 (x11_5 - 1)) = 1 then (if x8_1.length < 140737488355328 then (if x9_1.length < 140737488355328 then (arcaderef1_less.l0 kj5 l0 l1 (decide ((wrap64 (x11_5 - 1)) < 0)) (x8_1 ++ [true]) (x9_1 ++ [decide ((wrap64 (x11_5 - 1)) < 0)]) (wrap64 (x10_1 + 1))) else (none)) else (none)) else (if x8_1.length < 140737488355328 then (if x9_1.length < 140737488355328 then (arcaderef1_less.l0 kj5 l0 l1 (decide ((wrap64 (x11_5 - 1)) < 0)) (x8_1 ++ [((wrap64 (x11_5 - 1)) == (-1))]) (x9_1 ++ [decide ((wrap64 (x11_5 - 1)) < 0)]) (wrap64 (x10_1 + 1))) else (none)) else (none)))) = some (r1, r2) := by rw [if_pos rfl] at H; exact H
                    clear H
                    have H := H1
                    clear H1
                    by_cases c13 : x2_1 = true
                    · subst c13
                      have H1 : (if (wrap64 ((wrap64 (x11_5 - 1)) - 1)) = 1 then (if x8_1.length < 140737488355328 then (if x9_1.length < 140737488355328 then (arcaderef1_less.l0 kj5 l0 l1 (decide ((wrap64 ((wrap64 (x11_5 - 1)) - 1)) < 0)) (x8_1 ++ [true]) (x9_1 ++ [decide ((wrap64 ((wrap64 (x11_5 - 1)) - 1)) < 0)]) (wrap64 (x10_1 + 1))) else (none)) else (none)) else (if x8_1.length < 140737488355328 then (if x9_1.length < 140737488355328 then (arcaderef1_less.l0 kj5 l0 l1 (decide ((wrap64 ((wrap64 (x11_5 - 1)) - 1)) < 0)) (x8_1 ++ [((wrap64 ((wrap64 (x11_5 - 1)) - 1)) == (-1))]) (x9_1 ++ [decide ((wrap64 ((wrap64 (x11_5 - 1)) - 1)) < 0)]) (wrap64 (x10_1 + 1))) else (none)) else (none))) = some (r1, r2) := by rw [if_pos rfl] at H; exact H
                      clear H
                      have H := H1
                      clear H1
                      by_cases c14 : (wrap64 ((wrap64 (x11_5 - 1)) - 1)) = 1
                      · rw [if_pos c14] at H
                        have c14b0 : ((wrap64 ((wrap64 (x11_5 - 1)) - 1)) == 1) = true := beq_iff_eq.mpr c14
                        have c14b1 : ((wrap64 ((wrap64 (x11_5 - 1)) - 1)) != 1) = false := bne_eq_false_iff_eq.mpr c14
                        clear c14
                        by_cases c15 : x8_1.length < 140737488355328
                        · rw [if_pos c15] at H
                          have LMc15 := Aside0.mk c15
                          clear c15
                          obtain ⟨y133, hy133⟩ : ∃ y_ : List Bool, y_ = (x8_1 ++ [true]) := ⟨_, rfl⟩
                          replace H : (if x9_1.length < 140737488355328 then (arcaderef1_less.l0 kj5 l0 l1 (decide ((wrap64 ((wrap64 (x11_5 - 1)) - 1)) < 0)) y133 (x9_1 ++ [decide ((wrap64 ((wrap64 (x11_5 - 1)) - 1)) < 0)]) (wrap64 (x10_1 + 1))) else (none)) = some (r1, r2) := by first | (rw [hy133]; with_reducible exact H) | (have H2_ := (Option.bind_some _ _).symm.trans H; rw [hy133]; with_reducible exact H2_) | (have H2_ := (Option.bind_some _ _).symm.trans H; with_reducible exact H2_) | with_reducible exact H | (rw [hy133]; exact H) | exact H
                          have Ny133 := Aside0.mk hy133
                          clear hy133
                          by_cases c16 : x9_1.length < 140737488355328
                          · rw [if_pos c16] at H
                            have LMc16 := Aside0.mk c16
                            clear c16
                            obtain ⟨y136, hy136⟩ : ∃ y_ : List Bool, y_ = (x9_1 ++ [decide ((wrap64 ((wrap64 (x11_5 - 1)) - 1)) < 0)]) := ⟨_, rfl⟩
                            replace H : (arcaderef1_less.l0 kj5 l0 l1 (decide ((wrap64 ((wrap64 (x11_5 - 1)) - 1)) < 0)) y133 y136 (wrap64 (x10_1 + 1))) = some (r1, r2) := by first | (rw [hy136]; with_reducible exact H) | (have H2_ := (Option.bind_some _ _).symm.trans H; rw [hy136]; with_reducible exact H2_) | (have H2_ := (Option.bind_some _ _).symm.trans H; with_reducible exact H2_) | with_reducible exact H | (rw [hy136]; exact H) | exact H
                            have Ny136 := Aside0.mk hy136
                            clear hy136
                            have H' := Aside0.mk H
                            clear H
                            have p132 : 0 ≤ (x10_1 : Int) := of_decide_eq_true (by first | (with_reducible assumption) | assumption)
                            have q132 : x10_1 < (l1.length : Int) := of_decide_eq_true (by first | (with_reducible assumption) | assumption)
                            obtain ⟨ad132, e132, hx132_0⟩ := Kd.at_bool HR1.out x10_1 p132 q132
                            (try rw [← Nbq11.out] at hx132_0)
                            cases e132
                            replace hx132_0 := (HB.out.cell (World.block_lt_of_cell? w _ hx132_0)).trans hx132_0
                            replace p132 := eq_true p132
                            replace q132 := eq_true q132
                            go_wp2_with (first | ((with_reducible refine gate_builtin (b := .append) (xs := #[.tmp 35, .tmp 42]) rfl ?_); at_builtin; refine Kd.R_append Kd.bool (w0 := w) w.heap.size rfl (.tmp 35) (.tmp 42) 45 4 (.bool false) 1 rfl Tryd.underlying45 info4 rfl (by decide) (by omega) u8 x8_1 true [.bool true] (fun k_ => some k_ ≠ (u9 : Value).ownBlock) (fun _ => False) rfl rfl ?aP (fun _ hk => hk.elim) ?aF ?aO ?aB ?aS ?aL ?_; (case aP => exact rfl); (case aB => exact (by repeat (first | (with_reducible first | exact HB.out | apply below_alloc | apply pw_below_drewN | apply below_drew1) | exact HB.out))); (case aF => exact (fun k_ hk => Kd.fresh' (Kd.R_lt (by (with_reducible repeat (first | apply Kd.R_alloc | apply Kd.R_drewN | apply Kd.R_drew)); exact HO_9.out)) k_ hk)); (case aO => exact (by (with_reducible repeat (first | apply Kd.R_alloc | apply Kd.R_drewN | apply Kd.R_drew)); exact HO_8.out)); (case aS => exact (below_size (by repeat (first | (with_reducible first | exact HB.out | apply below_alloc | apply pw_below_drewN | apply below_drew1) | exact HB.out)))); (case aL => have := LMc15.out; omega); intro v134 w17 ho hb hg hat; rw [← Ny133.out] at ho; have n0_ := Aside0.mk (Kd.R_after (ok := (fun _ => True)) (by (with_reducible repeat (first | apply Kd.R_alloc | apply Kd.R_drewN | apply Kd.R_drew)); exact Kd.R_mono HO_9.out (fun _ hk => ⟨trivial, hk⟩)) hg hat); have n1_ := Aside0.mk (hb); have n2_ := Aside0.mk (ho); clear HO_9; clear HB; clear HO_8; have HO_9 := n0_; have HB := n1_; have HO135 := n2_; clear n0_ n1_ n2_; clear ho hb hg hat) | ((with_reducible refine gate_builtin (b := .append) (xs := #[.tmp 44, .tmp 46]) rfl ?_); at_builtin; refine Kd.R_append Kd.bool (w0 := w) w.heap.size rfl (.tmp 44) (.tmp 46) 45 4 (.bool false) 1 rfl Tryd.underlying45 info4 rfl (by decide) (by omega) u9 x9_1 (decide ((wrap64 ((wrap64 (x11_5 - 1)) - 1)) < 0)) [.bool (decide ((wrap64 ((wrap64 (x11_5 - 1)) - 1)) < 0))] (fun k_ => some k_ ≠ (v134 : Value).ownBlock) (fun _ => False) rfl rfl ?aP (fun _ hk => hk.elim) ?aF ?aO ?aB ?aS ?aL ?_; (case aP => exact rfl); (case aB => exact (by repeat (first | (with_reducible first | exact HB.out | apply below_alloc | apply pw_below_drewN | apply below_drew1) | exact HB.out))); (case aF => exact (fun k_ hk => Kd.fresh' (Kd.R_lt (by (with_reducible repeat (first | apply Kd.R_alloc | apply Kd.R_drewN | apply Kd.R_drew)); exact HO135.out)) k_ hk)); (case aO => exact (by (with_reducible repeat (first | apply Kd.R_alloc | apply Kd.R_drewN | apply Kd.R_drew)); exact Kd.R_mono HO_9.out (fun _ hk => hk.2))); (case aS => exact (below_size (by repeat (first | (with_reducible first | exact HB.out | apply below_alloc | apply pw_below_drewN | apply below_drew1) | exact HB.out)))); (case aL => have := LMc16.out; omega); intro v137 w18 ho hb hg hat; rw [← Ny136.out] at ho; have n0_ := Aside0.mk (Kd.R_after (ok := (fun _ => True)) (by (with_reducible repeat (first | apply Kd.R_alloc | apply Kd.R_drewN | apply Kd.R_drew)); exact Kd.R_mono HO135.out (fun _ hk => ⟨trivial, hk⟩)) hg hat); have n1_ := Aside0.mk (hb); have n2_ := Aside0.mk (ho); clear HO135; clear HB; clear HO_9; have HO135 := n0_; have HB := n1_; have HO138 := n2_; clear n0_ n1_ n2_; clear ho hb hg hat))
                            go_roundg kj5
                            case measure => have := HK1.out; have := HJ5.out; omega
                            case rel => exact ⟨(decide ((wrap64 ((wrap64 (x11_5 - 1)) - 1)) < 0)), (y133), (y136), (wrap64 (x10_1 + 1)), (by first | rfl | (simp; done) | (simp [*]; done)), (by first | rfl | (simp; done) | (simp [*]; done)), H', ⟨by have := HK1.out; have := HJ5.out; omega⟩, ⟨by (with_reducible repeat (first | apply Kd.R_alloc | apply Kd.R_drewN | apply Kd.R_drew)); exact Kd.R_mono HO135.out (fun _ hk => hk.2)⟩, ⟨by (with_reducible repeat (first | apply Kd.R_alloc | apply Kd.R_drewN | apply Kd.R_drew)); exact HO138.out⟩, ⟨by repeat (first | (with_reducible first | exact HB.out | apply below_alloc | apply pw_below_drewN | apply below_drew1) | exact HB.out)⟩⟩
                          · rw [if_neg c16] at H
                            exact absurd H (by simp)
                        · rw [if_neg c15] at H
                          exact absurd H (by simp)
                      · rw [if_neg c14] at H
                        have c14b0 : ((wrap64 ((wrap64 (x11_5 - 1)) - 1)) == 1) = false := beq_eq_false_iff_ne.mpr c14
                        have c14b1 : ((wrap64 ((wrap64 (x11_5 - 1)) - 1)) != 1) = true := bne_iff_ne.mpr c14
                        by_cases c19 : x8_1.length < 140737488355328
                        · rw [if_pos c19] at H
                          have LMc19 := Aside0.mk c19
                          clear c19
                          obtain ⟨y139, hy139⟩ : ∃ y_ : List Bool, y_ = (x8_1 ++ [((wrap64 ((wrap64 (x11_5 - 1)) - 1)) == (-1))]) := ⟨_, rfl⟩
                          replace H : (if x9_1.length < 140737488355328 then (arcaderef1_less.l0 kj5 l0 l1 (decide ((wrap64 ((wrap64 (x11_5 - 1)) - 1)) < 0)) y139 (x9_1 ++ [decide ((wrap64 ((wrap64 (x11_5 - 1)) - 1)) < 0)]) (wrap64 (x10_1 + 1))) else (none)) = some (r1, r2) := by first | (rw [hy139]; with_reducible exact H) | (have H2_ := (Option.bind_some _ _).symm.trans H; rw [hy139]; with_reducible exact H2_) | (have H2_ := (Option.bind_some _ _).symm.trans H; with_reducible exact H2_) | with_reducible exact H | (rw [hy139]; exact H) | exact H
                          have Ny139 := Aside0.mk hy139
                          clear hy139
                          by_cases c20 : x9_1.length < 140737488355328
                          · rw [if_pos c20] at H
                            have LMc20 := Aside0.mk c20
                            clear c20
                            obtain ⟨y142, hy142⟩ : ∃ y_ : List Bool, y_ = (x9_1 ++ [decide ((wrap64 ((wrap64 (x11_5 - 1)) - 1)) < 0)]) := ⟨_, rfl⟩
                            replace H : (arcaderef1_less.l0 kj5 l0 l1 (decide ((wrap64 ((wrap64 (x11_5 - 1)) - 1)) < 0)) y139 y142 (wrap64 (x10_1 + 1))) = some (r1, r2) := by first | (rw [hy142]; with_reducible exact H) | (have H2_ := (Option.bind_some _ _).symm.trans H; rw [hy142]; with_reducible exact H2_) | (have H2_ := (Option.bind_some _ _).symm.trans H; with_reducible exact H2_) | with_reducible exact H | (rw [hy142]; exact H) | exact H
                            have Ny142 := Aside0.mk hy142
                            clear hy142
                            have H' := Aside0.mk H
                            clear H
                            have p132 : 0 ≤ (x10_1 : Int) := of_decide_eq_true (by first | (with_reducible assumption) | assumption)
                            have q132 : x10_1 < (l1.length : Int) := of_decide_eq_true (by first | (with_reducible assumption) | assumption)
                            obtain ⟨ad132, e132, hx132_0⟩ := Kd.at_bool HR1.out x10_1 p132 q132
                            (try rw [← Nbq11.out] at hx132_0)
                            cases e132
                            replace hx132_0 := (HB.out.cell (World.block_lt_of_cell? w _ hx132_0)).trans hx132_0
                            replace p132 := eq_true p132
                            replace q132 := eq_true q132
                            go_wp2_with (first | ((with_reducible refine gate_builtin (b := .append) (xs := #[.tmp 35, .tmp 42]) rfl ?_); at_builtin; refine Kd.R_append Kd.bool (w0 := w) w.heap.size rfl (.tmp 35) (.tmp 42) 45 4 (.bool false) 1 rfl Tryd.underlying45 info4 rfl (by decide) (by omega) u8 x8_1 ((wrap64 ((wrap64 (x11_5 - 1)) - 1)) == (-1)) [.bool ((wrap64 ((wrap64 (x11_5 - 1)) - 1)) == (-1))] (fun k_ => some k_ ≠ (u9 : Value).ownBlock) (fun _ => False) rfl rfl ?aP (fun _ hk => hk.elim) ?aF ?aO ?aB ?aS ?aL ?_; (case aP => exact rfl); (case aB => exact (by repeat (first | (with_reducible first | exact HB.out | apply below_alloc | apply pw_below_drewN | apply below_drew1) | exact HB.out))); (case aF => exact (fun k_ hk => Kd.fresh' (Kd.R_lt (by (with_reducible repeat (first | apply Kd.R_alloc | apply Kd.R_drewN | apply Kd.R_drew)); exact HO_9.out)) k_ hk)); (case aO => exact (by (with_reducible repeat (first | apply Kd.R_alloc | apply Kd.R_drewN | apply Kd.R_drew)); exact HO_8.out)); (case aS => exact (below_size (by repeat (first | (with_reducible first | exact HB.out | apply below_alloc | apply pw_below_drewN | apply below_drew1) | exact HB.out)))); (case aL => have := LMc19.out; omega); intro v140 w21 ho hb hg hat; rw [← Ny139.out] at ho; have n0_ := Aside0.mk (Kd.R_after (ok := (fun _ => True)) (by (with_reducible repeat (first | apply Kd.R_alloc | apply Kd.R_drewN | apply Kd.R_drew)); exact Kd.R_mono HO_9.out (fun _ hk => ⟨trivial, hk⟩)) hg hat); have n1_ := Aside0.mk (hb); have n2_ := Aside0.mk (ho); clear HO_9; clear HB; clear HO_8; have HO_9 := n0_; have HB := n1_; have HO141 := n2_; clear n0_ n1_ n2_; clear ho hb hg hat) | ((with_reducible refine gate_builtin (b := .append) (xs := #[.tmp 44, .tmp 46]) rfl ?_); at_builtin; refine Kd.R_append Kd.bool (w0 := w) w.heap.size rfl (.tmp 44) (.tmp 46) 45 4 (.bool false) 1 rfl Tryd.underlying45 info4 rfl (by decide) (by omega) u9 x9_1 (decide ((wrap64 ((wrap64 (x11_5 - 1)) - 1)) < 0)) [.bool (decide ((wrap64 ((wrap64 (x11_5 - 1)) - 1)) < 0))] (fun k_ => some k_ ≠ (v140 : Value).ownBlock) (fun _ => False) rfl rfl ?aP (fun _ hk => hk.elim) ?aF ?aO ?aB ?aS ?aL ?_; (case aP => exact rfl); (case aB => exact (by repeat (first | (with_reducible first | exact HB.out | apply below_alloc | apply pw_below_drewN | apply below_drew1) | exact HB.out))); (case aF => exact (fun k_ hk => Kd.fresh' (Kd.R_lt (by (with_reducible repeat (first | apply Kd.R_alloc | apply Kd.R_drewN | apply Kd.R_drew)); exact HO141.out)) k_ hk)); (case aO => exact (by (with_reducible repeat (first | apply Kd.R_alloc | apply Kd.R_drewN | apply Kd.R_drew)); exact Kd.R_mono HO_9.out (fun _ hk => hk.2))); (case aS => exact (below_size (by repeat (first | (with_reducible first | exact HB.out | apply below_alloc | apply pw_below_drewN | apply below_drew1) | exact HB.out)))); (case aL => have := LMc20.out; omega); intro v143 w22 ho hb hg hat; rw [← Ny142.out] at ho; have n0_ := Aside0.mk (Kd.R_after (ok := (fun _ => True)) (by (with_reducible repeat (first | apply Kd.R_alloc | apply Kd.R_drewN | apply Kd.R_drew)); exact Kd.R_mono HO141.out (fun _ hk => ⟨trivial, hk⟩)) hg hat); have n1_ := Aside0.mk (hb); have n2_ := Aside0.mk (ho); clear HO141; clear HB; clear HO_9; have HO141 := n0_; have HB := n1_; have HO144 := n2_; clear n0_ n1_ n2_; clear ho hb hg hat))
                            go_roundg kj5
                            case measure => have := HK1.out; have := HJ5.out; omega
                            case rel => exact ⟨(decide ((wrap64 ((wrap64 (x11_5 - 1)) - 1)) < 0)), (y139), (y142), (wrap64 (x10_1 + 1)), (by first | rfl | (simp; done) | (simp [*]; done)), (by first | rfl | (simp; done) | (simp [*]; done)), H', ⟨by have := HK1.out; have := HJ5.out; omega⟩, ⟨by (with_reducible repeat (first | apply Kd.R_alloc | apply Kd.R_drewN | apply Kd.R_drew)); exact Kd.R_mono HO141.out (fun _ hk => hk.2)⟩, ⟨by (with_reducible repeat (first | apply Kd.R_alloc | apply Kd.R_drewN | apply Kd.R_drew)); exact HO144.out⟩, ⟨by repeat (first | (with_reducible first | exact HB.out | apply below_alloc | apply pw_below_drewN | apply below_drew1) | exact HB.out)⟩⟩
                          · rw [if_neg c20] at H
                            exact absurd H (by simp)
                        · rw [if_neg c19] at H
                          exact absurd H (by simp)
                    · replace c13 := Bool.eq_false_iff.mpr c13
                      subst c13
                      have H1 : (if (wrap64 (x11_5 - 1)) = 1 then (if x8_1.length < 140737488355328 then (if x9_1.length < 140737488355328 then (arcaderef1_less.l0 kj5 l0 l1 (decide ((wrap64 (x11_5 - 1)) < 0)) (x8_1 ++ [true]) (x9_1 ++ [decide ((wrap64 (x11_5 - 1)) < 0)]) (wrap64 (x10_1 + 1))) else (none)) else (none)) else (if x8_1.length < 140737488355328 then (if x9_1.length < 140737488355328 then (arcaderef1_less.l0 kj5 l0 l1 (decide ((wrap64 (x11_5 - 1)) < 0)) (x8_1 ++ [((wrap64 (x11_5 - 1)) == (-1))]) (x9_1 ++ [decide ((wrap64 (x11_5 - 1)) < 0)]) (wrap64 (x10_1 + 1))) else (none)) else (none))) = some (r1, r2) := by rw [if_neg (show ¬ (false = true) by decide)] at H; exact H
                      clear H
                      have H := H1
                      clear H1
                      by_cases c23 : (wrap64 (x11_5 - 1)) = 1
                      · rw [if_pos c23] at H
                        have c23b0 : ((wrap64 (x11_5 - 1)) == 1) = true := beq_iff_eq.mpr c23
                        have c23b1 : ((wrap64 (x11_5 - 1)) != 1) = false := bne_eq_false_iff_eq.mpr c23
                        clear c23
                        by_cases c24 : x8_1.length < 140737488355328
                        · rw [if_pos c24] at H
                          have LMc24 := Aside0.mk c24
                          clear c24
                          obtain ⟨y145, hy145⟩ : ∃ y_ : List Bool, y_ = (x8_1 ++ [true]) := ⟨_, rfl⟩
                          replace H : (if x9_1.length < 140737488355328 then (arcaderef1_less.l0 kj5 l0 l1 (decide ((wrap64 (x11_5 - 1)) < 0)) y145 (x9_1 ++ [decide ((wrap64 (x11_5 - 1)) < 0)]) (wrap64 (x10_1 + 1))) else (none)) = some (r1, r2) := by first | (rw [hy145]; with_reducible exact H) | (have H2_ := (Option.bind_some _ _).symm.trans H; rw [hy145]; with_reducible exact H2_) | (have H2_ := (Option.bind_some _ _).symm.trans H; with_reducible exact H2_) | with_reducible exact H | (rw [hy145]; exact H) | exact H
                          have Ny145 := Aside0.mk hy145
                          clear hy145
                          by_cases c25 : x9_1.length < 140737488355328
                          · rw [if_pos c25] at H
                            have LMc25 := Aside0.mk c25
                            clear c25
                            obtain ⟨y148, hy148⟩ : ∃ y_ : List Bool, y_ = (x9_1 ++ [decide ((wrap64 (x11_5 - 1)) < 0)]) := ⟨_, rfl⟩
                            replace H : (arcaderef1_less.l0 kj5 l0 l1 (decide ((wrap64 (x11_5 - 1)) < 0)) y145 y148 (wrap64 (x10_1 + 1))) = some (r1, r2) := by first | (rw [hy148]; with_reducible exact H) | (have H2_ := (Option.bind_some _ _).symm.trans H; rw [hy148]; with_reducible exact H2_) | (have H2_ := (Option.bind_some _ _).symm.trans H; with_reducible exact H2_) | with_reducible exact H | (rw [hy148]; exact H) | exact H
                            have Ny148 := Aside0.mk hy148
                            clear hy148
                            have H' := Aside0.mk H
                            clear H
                            have p132 : 0 ≤ (x10_1 : Int) := of_decide_eq_true (by first | (with_reducible assumption) | assumption)
                            have q132 : x10_1 < (l1.length : Int) := of_decide_eq_true (by first | (with_reducible assumption) | assumption)
                            obtain ⟨ad132, e132, hx132_0⟩ := Kd.at_bool HR1.out x10_1 p132 q132
                            (try rw [← Nbq11.out] at hx132_0)
                            cases e132
                            replace hx132_0 := (HB.out.cell (World.block_lt_of_cell? w _ hx132_0)).trans hx132_0
                            replace p132 := eq_true p132
                            replace q132 := eq_true q132
                            go_wp2_with (first | ((with_reducible refine gate_builtin (b := .append) (xs := #[.tmp 35, .tmp 42]) rfl ?_); at_builtin; refine Kd.R_append Kd.bool (w0 := w) w.heap.size rfl (.tmp 35) (.tmp 42) 45 4 (.bool false) 1 rfl Tryd.underlying45 info4 rfl (by decide) (by omega) u8 x8_1 true [.bool true] (fun k_ => some k_ ≠ (u9 : Value).ownBlock) (fun _ => False) rfl rfl ?aP (fun _ hk => hk.elim) ?aF ?aO ?aB ?aS ?aL ?_; (case aP => exact rfl); (case aB => exact (by repeat (first | (with_reducible first | exact HB.out | apply below_alloc | apply pw_below_drewN | apply below_drew1) | exact HB.out))); (case aF => exact (fun k_ hk => Kd.fresh' (Kd.R_lt (by (with_reducible repeat (first | apply Kd.R_alloc | apply Kd.R_drewN | apply Kd.R_drew)); exact HO_9.out)) k_ hk)); (case aO => exact (by (with_reducible repeat (first | apply Kd.R_alloc | apply Kd.R_drewN | apply Kd.R_drew)); exact HO_8.out)); (case aS => exact (below_size (by repeat (first | (with_reducible first | exact HB.out | apply below_alloc | apply pw_below_drewN | apply below_drew1) | exact HB.out)))); (case aL => have := LMc24.out; omega); intro v146 w26 ho hb hg hat; rw [← Ny145.out] at ho; have n0_ := Aside0.mk (Kd.R_after (ok := (fun _ => True)) (by (with_reducible repeat (first | apply Kd.R_alloc | apply Kd.R_drewN | apply Kd.R_drew)); exact Kd.R_mono HO_9.out (fun _ hk => ⟨trivial, hk⟩)) hg hat); have n1_ := Aside0.mk (hb); have n2_ := Aside0.mk (ho); clear HO_9; clear HB; clear HO_8; have HO_9 := n0_; have HB := n1_; have HO147 := n2_; clear n0_ n1_ n2_; clear ho hb hg hat) | ((with_reducible refine gate_builtin (b := .append) (xs := #[.tmp 44, .tmp 46]) rfl ?_); at_builtin; refine Kd.R_append Kd.bool (w0 := w) w.heap.size rfl (.tmp 44) (.tmp 46) 45 4 (.bool false) 1 rfl Tryd.underlying45 info4 rfl (by decide) (by omega) u9 x9_1 (decide ((wrap64 (x11_5 - 1)) < 0)) [.bool (decide ((wrap64 (x11_5 - 1)) < 0))] (fun k_ => some k_ ≠ (v146 : Value).ownBlock) (fun _ => False) rfl rfl ?aP (fun _ hk => hk.elim) ?aF ?aO ?aB ?aS ?aL ?_; (case aP => exact rfl); (case aB => exact (by repeat (first | (with_reducible first | exact HB.out | apply below_alloc | apply pw_below_drewN | apply below_drew1) | exact HB.out))); (case aF => exact (fun k_ hk => Kd.fresh' (Kd.R_lt (by (with_reducible repeat (first | apply Kd.R_alloc | apply Kd.R_drewN | apply Kd.R_drew)); exact HO147.out)) k_ hk)); (case aO => exact (by (with_reducible repeat (first | apply Kd.R_alloc | apply Kd.R_drewN | apply Kd.R_drew)); exact Kd.R_mono HO_9.out (fun _ hk => hk.2))); (case aS => exact (below_size (by repeat (first | (with_reducible first | exact HB.out | apply below_alloc | apply pw_below_drewN | apply below_drew1) | exact HB.out)))); (case aL => have := LMc25.out; omega); intro v149 w27 ho hb hg hat; rw [← Ny148.out] at ho; have n0_ := Aside0.mk (Kd.R_after (ok := (fun _ => True)) (by (with_reducible repeat (first | apply Kd.R_alloc | apply Kd.R_drewN | apply Kd.R_drew)); exact Kd.R_mono HO147.out (fun _ hk => ⟨trivial, hk⟩)) hg hat); have n1_ := Aside0.mk (hb); have n2_ := Aside0.mk (ho); clear HO147; clear HB; clear HO_9; have HO147 := n0_; have HB := n1_; have HO150 := n2_; clear n0_ n1_ n2_; clear ho hb hg hat))
                            go_roundg kj5
                            case measure => have := HK1.out; have := HJ5.out; omega
                            case rel => exact ⟨(decide ((wrap64 (x11_5 - 1)) < 0)), (y145), (y148), (wrap64 (x10_1 + 1)), (by first | rfl | (simp; done) | (simp [*]; done)), (by first | rfl | (simp; done) | (simp [*]; done)), H', ⟨by have := HK1.out; have := HJ5.out; omega⟩, ⟨by (with_reducible repeat (first | apply Kd.R_alloc | apply Kd.R_drewN | apply Kd.R_drew)); exact Kd.R_mono HO147.out (fun _ hk => hk.2)⟩, ⟨by (with_reducible repeat (first | apply Kd.R_alloc | apply Kd.R_drewN | apply Kd.R_drew)); exact HO150.out⟩, ⟨by repeat (first | (with_reducible first | exact HB.out | apply below_alloc | apply pw_below_drewN | apply below_drew1) | exact HB.out)⟩⟩
                          · rw [if_neg c25] at H
                            exact absurd H (by simp)
                        · rw [if_neg c24] at H
                          exact absurd H (by simp)
                      · rw [if_neg c23] at H
                        have c23b0 : ((wrap64 (x11_5 - 1)) == 1) = false := beq_eq_false_iff_ne.mpr c23
                        have c23b1 : ((wrap64 (x11_5 - 1)) != 1) = true := bne_iff_ne.mpr c23
                        by_cases c28 : x8_1.length < 140737488355328
                        · rw [if_pos c28] at H
                          have LMc28 := Aside0.mk c28
                          clear c28
                          obtain ⟨y151, hy151⟩ : ∃ y_ : List Bool, y_ = (x8_1 ++ [((wrap64 (x11_5 - 1)) == (-1))]) := ⟨_, rfl⟩
                          replace H : (if x9_1.length < 140737488355328 then (arcaderef1_less.l0 kj5 l0 l1 (decide ((wrap64 (x11_5 - 1)) < 0)) y151 (x9_1 ++ [decide ((wrap64 (x11_5 - 1)) < 0)]) (wrap64 (x10_1 + 1))) else (none)) = some (r1, r2) := by first | (rw [hy151]; with_reducible exact H) | (have H2_ := (Option.bind_some _ _).symm.trans H; rw [hy151]; with_reducible exact H2_) | (have H2_ := (Option.bind_some _ _).symm.trans H; with_reducible exact H2_) | with_reducible exact H | (rw [hy151]; exact H) | exact H
                          have Ny151 := Aside0.mk hy151
                          clear hy151
                          by_cases c29 : x9_1.length < 140737488355328
                          · rw [if_pos c29] at H
                            have LMc29 := Aside0.mk c29
                            clear c29
                            obtain ⟨y154, hy154⟩ : ∃ y_ : List Bool, y_ = (x9_1 ++ [decide ((wrap64 (x11_5 - 1)) < 0)]) := ⟨_, rfl⟩
                            replace H : (arcaderef1_less.l0 kj5 l0 l1 (decide ((wrap64 (x11_5 - 1)) < 0)) y151 y154 (wrap64 (x10_1 + 1))) = some (r1, r2) := by first | (rw [hy154]; with_reducible exact H) | (have H2_ := (Option.bind_some _ _).symm.trans H; rw [hy154]; with_reducible exact H2_) | (have H2_ := (Option.bind_some _ _).symm.trans H; with_reducible exact H2_) | with_reducible exact H | (rw [hy154]; exact H) | exact H
                            have Ny154 := Aside0.mk hy154
                            clear hy154
                            have H' := Aside0.mk H
                            clear H
                            have p132 : 0 ≤ (x10_1 : Int) := of_decide_eq_true (by first | (with_reducible assumption) | assumption)
                            have q132 : x10_1 < (l1.length : Int) := of_decide_eq_true (by first | (with_reducible assumption) | assumption)
                            obtain ⟨ad132, e132, hx132_0⟩ := Kd.at_bool HR1.out x10_1 p132 q132
                            (try rw [← Nbq11.out] at hx132_0)
                            cases e132
                            replace hx132_0 := (HB.out.cell (World.block_lt_of_cell? w _ hx132_0)).trans hx132_0
                            replace p132 := eq_true p132
                            replace q132 := eq_true q132
                            go_wp2_with (first | ((with_reducible refine gate_builtin (b := .append) (xs := #[.tmp 35, .tmp 42]) rfl ?_); at_builtin; refine Kd.R_append Kd.bool (w0 := w) w.heap.size rfl (.tmp 35) (.tmp 42) 45 4 (.bool false) 1 rfl Tryd.underlying45 info4 rfl (by decide) (by omega) u8 x8_1 ((wrap64 (x11_5 - 1)) == (-1)) [.bool ((wrap64 (x11_5 - 1)) == (-1))] (fun k_ => some k_ ≠ (u9 : Value).ownBlock) (fun _ => False) rfl rfl ?aP (fun _ hk => hk.elim) ?aF ?aO ?aB ?aS ?aL ?_; (case aP => exact rfl); (case aB => exact (by repeat (first | (with_reducible first | exact HB.out | apply below_alloc | apply pw_below_drewN | apply below_drew1) | exact HB.out))); (case aF => exact (fun k_ hk => Kd.fresh' (Kd.R_lt (by (with_reducible repeat (first | apply Kd.R_alloc | apply Kd.R_drewN | apply Kd.R_drew)); exact HO_9.out)) k_ hk)); (case aO => exact (by (with_reducible repeat (first | apply Kd.R_alloc | apply Kd.R_drewN | apply Kd.R_drew)); exact HO_8.out)); (case aS => exact (below_size (by repeat (first | (with_reducible first | exact HB.out | apply below_alloc | apply pw_below_drewN | apply below_drew1) | exact HB.out)))); (case aL => have := LMc28.out; omega); intro v152 w30 ho hb hg hat; rw [← Ny151.out] at ho; have n0_ := Aside0.mk (Kd.R_after (ok := (fun _ => True)) (by (with_reducible repeat (first | apply Kd.R_alloc | apply Kd.R_drewN | apply Kd.R_drew)); exact Kd.R_mono HO_9.out (fun _ hk => ⟨trivial, hk⟩)) hg hat); have n1_ := Aside0.mk (hb); have n2_ := Aside0.mk (ho); clear HO_9; clear HB; clear HO_8; have HO_9 := n0_; have HB := n1_; have HO153 := n2_; clear n0_ n1_ n2_; clear ho hb hg hat) | ((with_reducible refine gate_builtin (b := .append) (xs := #[.tmp 44, .tmp 46]) rfl ?_); at_builtin; refine Kd.R_append Kd.bool (w0 := w) w.heap.size rfl (.tmp 44) (.tmp 46) 45 4 (.bool false) 1 rfl Tryd.underlying45 info4 rfl (by decide) (by omega) u9 x9_1 (decide ((wrap64 (x11_5 - 1)) < 0)) [.bool (decide ((wrap64 (x11_5 - 1)) < 0))] (fun k_ => some k_ ≠ (v152 : Value).ownBlock) (fun _ => False) rfl rfl ?aP (fun _ hk => hk.elim) ?aF ?aO ?aB ?aS ?aL ?_; (case aP => exact rfl); (case aB => exact (by repeat (first | (with_reducible first | exact HB.out | apply below_alloc | apply pw_below_drewN | apply below_drew1) | exact HB.out))); (case aF => exact (fun k_ hk => Kd.fresh' (Kd.R_lt (by (with_reducible repeat (first | apply Kd.R_alloc | apply Kd.R_drewN | apply Kd.R_drew)); exact HO153.out)) k_ hk)); (case aO => exact (by (with_reducible repeat (first | apply Kd.R_alloc | apply Kd.R_drewN | apply Kd.R_drew)); exact Kd.R_mono HO_9.out (fun _ hk => hk.2))); (case aS => exact (below_size (by repeat (first | (with_reducible first | exact HB.out | apply below_alloc | apply pw_below_drewN | apply below_drew1) | exact HB.out)))); (case aL => have := LMc29.out; omega); intro v155 w31 ho hb hg hat; rw [← Ny154.out] at ho; have n0_ := Aside0.mk (Kd.R_after (ok := (fun _ => True)) (by (with_reducible repeat (first | apply Kd.R_alloc | apply Kd.R_drewN | apply Kd.R_drew)); exact Kd.R_mono HO153.out (fun _ hk => ⟨trivial, hk⟩)) hg hat); have n1_ := Aside0.mk (hb); have n2_ := Aside0.mk (ho); clear HO153; clear HB; clear HO_9; have HO153 := n0_; have HB := n1_; have HO156 := n2_; clear n0_ n1_ n2_; clear ho hb hg hat))
                            go_roundg kj5
                            case measure => have := HK1.out; have := HJ5.out; omega
                            case rel => exact ⟨(decide ((wrap64 (x11_5 - 1)) < 0)), (y151), (y154), (wrap64 (x10_1 + 1)), (by first | rfl | (simp; done) | (simp [*]; done)), (by first | rfl | (simp; done) | (simp [*]; done)), H', ⟨by have := HK1.out; have := HJ5.out; omega⟩, ⟨by (with_reducible repeat (first | apply Kd.R_alloc | apply Kd.R_drewN | apply Kd.R_drew)); exact Kd.R_mono HO153.out (fun _ hk => hk.2)⟩, ⟨by (with_reducible repeat (first | apply Kd.R_alloc | apply Kd.R_drewN | apply Kd.R_drew)); exact HO156.out⟩, ⟨by repeat (first | (with_reducible first | exact HB.out | apply below_alloc | apply pw_below_drewN | apply below_drew1) | exact HB.out)⟩⟩
                          · rw [if_neg c29] at H
                            exact absurd H (by simp)
                        · rw [if_neg c28] at H
                          exact absurd H (by simp)
                  · replace c12 := Bool.eq_false_iff.mpr c12
                    subst c12
                    have H1 : (if x2_1 = true then (if (wrap64 (x11_5 - 1)) = 1 then (if x8_1.length < 140737488355328 then (if x9_1.length < 140737488355328 then (arcaderef1_less.l0 kj5 l0 l1 (decide ((wrap64 (x11_5 - 1)) < 0)) (x8_1 ++ [true]) (x9_1 ++ [decide ((wrap64 (x11_5 - 1)) < 0)]) (wrap64 (x10_1 + 1))) else (none)) else (none)) else (if x8_1.length < 140737488355328 then (if x9_1.length < 140737488355328 then (arcaderef1_less.l0 kj5 l0 l1 (decide ((wrap64 (x11_5 - 1)) < 0)) (x8_1 ++ [((wrap64 (x11_5 - 1)) == (-1))]) (x9_1 ++ [decide ((wrap64 (x11_5 - 1)) < 0)]) (wrap64 (x10_1 + 1))) else (none)) else (none))) else (if x11_5 = 1 then (if x8_1.length < 140737488355328 then (if x9_1.length < 140737488355328 then (arcaderef1_less.l0 kj5 l0 l1 (decide (x11_5 < 0)) (x8_1 ++ [true]) (x9_1 ++ [decide (x11_5 < 0)]) (wrap64 (x10_1 + 1))) else (none)) else (none)) else (if x8_1.length < 140737488355328 then (if x9_1.length < 140737488355328 then (arcaderef1_less.l0 kj5 l0 l1 (decide (x11_5 < 0)) (x8_1 ++ [(x11_5 == (-1))]) (x9_1 ++ [decide (x11_5 < 0)]) (wrap64 (x10_1 + 1))) else (none)) else (none)))) = some (r1, r2) := by rw [if_neg (show ¬ (false = true) by decide)] at H; exact H
                    clear H
                    have H := H1
                    clear H1
                    by_cases c32 : x2_1 = true
                    · subst c32
                      have H1 : (if (wrap64 (x11_5 - 1)) = 1 then (if x8_1.length < 140737488355328 then (if x9_1.length < 140737488355328 then (arcaderef1_less.l0 kj5 l0 l1 (decide ((wrap64 (x11_5 - 1)) < 0)) (x8_1 ++ [true]) (x9_1 ++ [decide ((wrap64 (x11_5 - 1)) < 0)]) (wrap64 (x10_1 + 1))) else (none)) else (none)) else (if x8_1.length < 140737488355328 then (if x9_1.length < 140737488355328 then (arcaderef1_less.l0 kj5 l0 l1 (decide ((wrap64 (x11_5 - 1)) < 0)) (x8_1 ++ [((wrap64 (x11_5 - 1)) == (-1))]) (x9_1 ++ [decide ((wrap64 (x11_5 - 1)) < 0)]) (wrap64 (x10_1 + 1))) else (none)) else (none))) = some (r1, r2) := by rw [if_pos rfl] at H; exact H
                      clear H
                      have H := H1
                      clear H1
                      by_cases c33 : (wrap64 (x11_5 - 1)) = 1
                      · rw [if_pos c33] at H
                        have c33b0 : ((wrap64 (x11_5 - 1)) == 1) = true := beq_iff_eq.mpr c33
                        have c33b1 : ((wrap64 (x11_5 - 1)) != 1) = false := bne_eq_false_iff_eq.mpr c33
                        clear c33
                        by_cases c34 : x8_1.length < 140737488355328
                        · rw [if_pos c34] at H
                          have LMc34 := Aside0.mk c34
                          clear c34
                          obtain ⟨y157, hy157⟩ : ∃ y_ : List Bool, y_ = (x8_1 ++ [true]) := ⟨_, rfl⟩
                          replace H : (if x9_1.length < 140737488355328 then (arcaderef1_less.l0 kj5 l0 l1 (decide ((wrap64 (x11_5 - 1)) < 0)) y157 (x9_1 ++ [decide ((wrap64 (x11_5 - 1)) < 0)]) (wrap64 (x10_1 + 1))) else (none)) = some (r1, r2) := by first | (rw [hy157]; with_reducible exact H) | (have H2_ := (Option.bind_some _ _).symm.trans H; rw [hy157]; with_reducible exact H2_) | (have H2_ := (Option.bind_some _ _).symm.trans H; with_reducible exact H2_) | with_reducible exact H | (rw [hy157]; exact H) | exact H
                          have Ny157 := Aside0.mk hy157
                          clear hy157
                          by_cases c35 : x9_1.length < 140737488355328
                          · rw [if_pos c35] at H
                            have LMc35 := Aside0.mk c35
                            clear c35
                            obtain ⟨y160, hy160⟩ : ∃ y_ : List Bool, y_ = (x9_1 ++ [decide ((wrap64 (x11_5 - 1)) < 0)]) := ⟨_, rfl⟩
                            replace H : (arcaderef1_less.l0 kj5 l0 l1 (decide ((wrap64 (x11_5 - 1)) < 0)) y157 y160 (wrap64 (x10_1 + 1))) = some (r1, r2) := by first | (rw [hy160]; with_reducible exact H) | (have H2_ := (Option.bind_some _ _).symm.trans H; rw [hy160]; with_reducible exact H2_) | (have H2_ := (Option.bind_some _ _).symm.trans H; with_reducible exact H2_) | with_reducible exact H | (rw [hy160]; exact H) | exact H
                            have Ny160 := Aside0.mk hy160
                            clear hy160
                            have H' := Aside0.mk H
                            clear H
                            have p132 : 0 ≤ (x10_1 : Int) := of_decide_eq_true (by first | (with_reducible assumption) | assumption)
                            have q132 : x10_1 < (l1.length : Int) := of_decide_eq_true (by first | (with_reducible assumption) | assumption)
                            obtain ⟨ad132, e132, hx132_0⟩ := Kd.at_bool HR1.out x10_1 p132 q132
                            (try rw [← Nbq11.out] at hx132_0)
                            cases e132
                            replace hx132_0 := (HB.out.cell (World.block_lt_of_cell? w _ hx132_0)).trans hx132_0
                            replace p132 := eq_true p132
                            replace q132 := eq_true q132
                            go_wp2_with (first | ((with_reducible refine gate_builtin (b := .append) (xs := #[.tmp 35, .tmp 42]) rfl ?_); at_builtin; refine Kd.R_append Kd.bool (w0 := w) w.heap.size rfl (.tmp 35) (.tmp 42) 45 4 (.bool false) 1 rfl Tryd.underlying45 info4 rfl (by decide) (by omega) u8 x8_1 true [.bool true] (fun k_ => some k_ ≠ (u9 : Value).ownBlock) (fun _ => False) rfl rfl ?aP (fun _ hk => hk.elim) ?aF ?aO ?aB ?aS ?aL ?_; (case aP => exact rfl); (case aB => exact (by repeat (first | (with_reducible first | exact HB.out | apply below_alloc | apply pw_below_drewN | apply below_drew1) | exact HB.out))); (case aF => exact (fun k_ hk => Kd.fresh' (Kd.R_lt (by (with_reducible repeat (first | apply Kd.R_alloc | apply Kd.R_drewN | apply Kd.R_drew)); exact HO_9.out)) k_ hk)); (case aO => exact (by (with_reducible repeat (first | apply Kd.R_alloc | apply Kd.R_drewN | apply Kd.R_drew)); exact HO_8.out)); (case aS => exact (below_size (by repeat (first | (with_reducible first | exact HB.out | apply below_alloc | apply pw_below_drewN | apply below_drew1) | exact HB.out)))); (case aL => have := LMc34.out; omega); intro v158 w36 ho hb hg hat; rw [← Ny157.out] at ho; have n0_ := Aside0.mk (Kd.R_after (ok := (fun _ => True)) (by (with_reducible repeat (first | apply Kd.R_alloc | apply Kd.R_drewN | apply Kd.R_drew)); exact Kd.R_mono HO_9.out (fun _ hk => ⟨trivial, hk⟩)) hg hat); have n1_ := Aside0.mk (hb); have n2_ := Aside0.mk (ho); clear HO_9; clear HB; clear HO_8; have HO_9 := n0_; have HB := n1_; have HO159 := n2_; clear n0_ n1_ n2_; clear ho hb hg hat) | ((with_reducible refine gate_builtin (b := .append) (xs := #[.tmp 44, .tmp 46]) rfl ?_); at_builtin; refine Kd.R_append Kd.bool (w0 := w) w.heap.size rfl (.tmp 44) (.tmp 46) 45 4 (.bool false) 1 rfl Tryd.underlying45 info4 rfl (by decide) (by omega) u9 x9_1 (decide ((wrap64 (x11_5 - 1)) < 0)) [.bool (decide ((wrap64 (x11_5 - 1)) < 0))] (fun k_ => some k_ ≠ (v158 : Value).ownBlock) (fun _ => False) rfl rfl ?aP (fun _ hk => hk.elim) ?aF ?aO ?aB ?aS ?aL ?_; (case aP => exact rfl); (case aB => exact (by repeat (first | (with_reducible first | exact HB.out | apply below_alloc | apply pw_below_drewN | apply below_drew1) | exact HB.out))); (case aF => exact (fun k_ hk => Kd.fresh' (Kd.R_lt (by (with_reducible repeat (first | apply Kd.R_alloc | apply Kd.R_drewN | apply Kd.R_drew)); exact HO159.out)) k_ hk)); (case aO => exact (by (with_reducible repeat (first | apply Kd.R_alloc | apply Kd.R_drewN | apply Kd.R_drew)); exact Kd.R_mono HO_9.out (fun _ hk => hk.2))); (case aS => exact (below_size (by repeat (first | (with_reducible first | exact HB.out | apply below_alloc | apply pw_below_drewN | apply below_drew1) | exact HB.out)))); (case aL => have := LMc35.out; omega); intro v161 w37 ho hb hg hat; rw [← Ny160.out] at ho; have n0_ := Aside0.mk (Kd.R_after (ok := (fun _ => True)) (by (with_reducible repeat (first | apply Kd.R_alloc | apply Kd.R_drewN | apply Kd.R_drew)); exact Kd.R_mono HO159.out (fun _ hk => ⟨trivial, hk⟩)) hg hat); have n1_ := Aside0.mk (hb); have n2_ := Aside0.mk (ho); clear HO159; clear HB; clear HO_9; have HO159 := n0_; have HB := n1_; have HO162 := n2_; clear n0_ n1_ n2_; clear ho hb hg hat))
                            go_roundg kj5
                            case measure => have := HK1.out; have := HJ5.out; omega
                            case rel => exact ⟨(decide ((wrap64 (x11_5 - 1)) < 0)), (y157), (y160), (wrap64 (x10_1 + 1)), (by first | rfl | (simp; done) | (simp [*]; done)), (by first | rfl | (simp; done) | (simp [*]; done)), H', ⟨by have := HK1.out; have := HJ5.out; omega⟩, ⟨by (with_reducible repeat (first | apply Kd.R_alloc | apply Kd.R_drewN | apply Kd.R_drew)); exact Kd.R_mono HO159.out (fun _ hk => hk.2)⟩, ⟨by (with_reducible repeat (first | apply Kd.R_alloc | apply Kd.R_drewN | apply Kd.R_drew)); exact HO162.out⟩, ⟨by repeat (first | (with_reducible first | exact HB.out | apply below_alloc | apply pw_below_drewN | apply below_drew1) | exact HB.out)⟩⟩
                          · rw [if_neg c35] at H
                            exact absurd H (by simp)
                        · rw [if_neg c34] at H
                          exact absurd H (by simp)
                      · rw [if_neg c33] at H
                        have c33b0 : ((wrap64 (x11_5 - 1)) == 1) = false := beq_eq_false_iff_ne.mpr c33
                        have c33b1 : ((wrap64 (x11_5 - 1)) != 1) = true := bne_iff_ne.mpr c33
                        by_cases c38 : x8_1.length < 140737488355328
                        · rw [if_pos c38] at H
                          have LMc38 := Aside0.mk c38
                          clear c38
                          obtain ⟨y163, hy163⟩ : ∃ y_ : List Bool, y_ = (x8_1 ++ [((wrap64 (x11_5 - 1)) == (-1))]) := ⟨_, rfl⟩
                          replace H : (if x9_1.length < 140737488355328 then (arcaderef1_less.l0 kj5 l0 l1 (decide ((wrap64 (x11_5 - 1)) < 0)) y163 (x9_1 ++ [decide ((wrap64 (x11_5 - 1)) < 0)]) (wrap64 (x10_1 + 1))) else (none)) = some (r1, r2) := by first | (rw [hy163]; with_reducible exact H) | (have H2_ := (Option.bind_some _ _).symm.trans H; rw [hy163]; with_reducible exact H2_) | (have H2_ := (Option.bind_some _ _).symm.trans H; with_reducible exact H2_) | with_reducible exact H | (rw [hy163]; exact H) | exact H
                          have Ny163 := Aside0.mk hy163
                          clear hy163
                          by_cases c39 : x9_1.length < 140737488355328
                          · rw [if_pos c39] at H
                            have LMc39 := Aside0.mk c39
                            clear c39
                            obtain ⟨y166, hy166⟩ : ∃ y_ : List Bool, y_ = (x9_1 ++ [decide ((wrap64 (x11_5 - 1)) < 0)]) := ⟨_, rfl⟩
                            replace H : (arcaderef1_less.l0 kj5 l0 l1 (decide ((wrap64 (x11_5 - 1)) < 0)) y163 y166 (wrap64 (x10_1 + 1))) = some (r1, r2) := by first | (rw [hy166]; with_reducible exact H) | (have H2_ := (Option.bind_some _ _).symm.trans H; rw [hy166]; with_reducible exact H2_) | (have H2_ := (Option.bind_some _ _).symm.trans H; with_reducible exact H2_) | with_reducible exact H | (rw [hy166]; exact H) | exact H
                            have Ny166 := Aside0.mk hy166
                            clear hy166
                            have H' := Aside0.mk H
                            clear H
                            have p132 : 0 ≤ (x10_1 : Int) := of_decide_eq_true (by first | (with_reducible assumption) | assumption)
                            have q132 : x10_1 < (l1.length : Int) := of_decide_eq_true (by first | (with_reducible assumption) | assumption)
                            obtain ⟨ad132, e132, hx132_0⟩ := Kd.at_bool HR1.out x10_1 p132 q132
                            (try rw [← Nbq11.out] at hx132_0)
                            cases e132
                            replace hx132_0 := (HB.out.cell (World.block_lt_of_cell? w _ hx132_0)).trans hx132_0
                            replace p132 := eq_true p132
                            replace q132 := eq_true q132
                            go_wp2_with (first | ((with_reducible refine gate_builtin (b := .append) (xs := #[.tmp 35, .tmp 42]) rfl ?_); at_builtin; refine Kd.R_append Kd.bool (w0 := w) w.heap.size rfl (.tmp 35) (.tmp 42) 45 4 (.bool false) 1 rfl Tryd.underlying45 info4 rfl (by decide) (by omega) u8 x8_1 ((wrap64 (x11_5 - 1)) == (-1)) [.bool ((wrap64 (x11_5 - 1)) == (-1))] (fun k_ => some k_ ≠ (u9 : Value).ownBlock) (fun _ => False) rfl rfl ?aP (fun _ hk => hk.elim) ?aF ?aO ?aB ?aS ?aL ?_; (case aP => exact rfl); (case aB => exact (by repeat (first | (with_reducible first | exact HB.out | apply below_alloc | apply pw_below_drewN | apply below_drew1) | exact HB.out))); (case aF => exact (fun k_ hk => Kd.fresh' (Kd.R_lt (by (with_reducible repeat (first | apply Kd.R_alloc | apply Kd.R_drewN | apply Kd.R_drew)); exact HO_9.out)) k_ hk)); (case aO => exact (by (with_reducible repeat (first | apply Kd.R_alloc | apply Kd.R_drewN | apply Kd.R_drew)); exact HO_8.out)); (case aS => exact (below_size (by repeat (first | (with_reducible first | exact HB.out | apply below_alloc | apply pw_below_drewN | apply below_drew1) | exact HB.out)))); (case aL => have := LMc38.out; omega); intro v164 w40 ho hb hg hat; rw [← Ny163.out] at ho; have n0_ := Aside0.mk (Kd.R_after (ok := (fun _ => True)) (by (with_reducible repeat (first | apply Kd.R_alloc | apply Kd.R_drewN | apply Kd.R_drew)); exact Kd.R_mono HO_9.out (fun _ hk => ⟨trivial, hk⟩)) hg hat); have n1_ := Aside0.mk (hb); have n2_ := Aside0.mk (ho); clear HO_9; clear HB; clear HO_8; have HO_9 := n0_; have HB := n1_; have HO165 := n2_; clear n0_ n1_ n2_; clear ho hb hg hat) | ((with_reducible refine gate_builtin (b := .append) (xs := #[.tmp 44, .tmp 46]) rfl ?_); at_builtin; refine Kd.R_append Kd.bool (w0 := w) w.heap.size rfl (.tmp 44) (.tmp 46) 45 4 (.bool false) 1 rfl Tryd.underlying45 info4 rfl (by decide) (by omega) u9 x9_1 (decide ((wrap64 (x11_5 - 1)) < 0)) [.bool (decide ((wrap64 (x11_5 - 1)) < 0))] (fun k_ => some k_ ≠ (v164 : Value).ownBlock) (fun _ => False) rfl rfl ?aP (fun _ hk => hk.elim) ?aF ?aO ?aB ?aS ?aL ?_; (case aP => exact rfl); (case aB => exact (by repeat (first | (with_reducible first | exact HB.out | apply below_alloc | apply pw_below_drewN | apply below_drew1) | exact HB.out))); (case aF => exact (fun k_ hk => Kd.fresh' (Kd.R_lt (by (with_reducible repeat (first | apply Kd.R_alloc | apply Kd.R_drewN | apply Kd.R_drew)); exact HO165.out)) k_ hk)); (case aO => exact (by (with_reducible repeat (first | apply Kd.R_alloc | apply Kd.R_drewN | apply Kd.R_drew)); exact Kd.R_mono HO_9.out (fun _ hk => hk.2))); (case aS => exact (below_size (by repeat (first | (with_reducible first | exact HB.out | apply below_alloc | apply pw_below_drewN | apply below_drew1) | exact HB.out)))); (case aL => have := LMc39.out; omega); intro v167 w41 ho hb hg hat; rw [← Ny166.out] at ho; have n0_ := Aside0.mk (Kd.R_after (ok := (fun _ => True)) (by (with_reducible repeat (first | apply Kd.R_alloc | apply Kd.R_drewN | apply Kd.R_drew)); exact Kd.R_mono HO165.out (fun _ hk => ⟨trivial, hk⟩)) hg hat); have n1_ := Aside0.mk (hb); have n2_ := Aside0.mk (ho); clear HO165; clear HB; clear HO_9; have HO165 := n0_; have HB := n1_; have HO168 := n2_; clear n0_ n1_ n2_; clear ho hb hg hat))
                            go_roundg kj5
                            case measure => have := HK1.out; have := HJ5.out; omega
                            case rel => exact ⟨(decide ((wrap64 (x11_5 - 1)) < 0)), (y163), (y166), (wrap64 (x10_1 + 1)), (by first | rfl | (simp; done) | (simp [*]; done)), (by first | rfl | (simp; done) | (simp [*]; done)), H', ⟨by have := HK1.out; have := HJ5.out; omega⟩, ⟨by (with_reducible repeat (first | apply Kd.R_alloc | apply Kd.R_drewN | apply Kd.R_drew)); exact Kd.R_mono HO165.out (fun _ hk => hk.2)⟩, ⟨by (with_reducible repeat (first | apply Kd.R_alloc | apply Kd.R_drewN | apply Kd.R_drew)); exact HO168.out⟩, ⟨by repeat (first | (with_reducible first | exact HB.out | apply below_alloc | apply pw_below_drewN | apply below_drew1) | exact HB.out)⟩⟩
                          · rw [if_neg c39] at H
                            exact absurd H (by simp)
                        · rw [if_neg c38] at H
                          exact absurd H (by simp)
                    · replace c32 := Bool.eq_false_iff.mpr c32
                      subst c32
                      have H1 : (if x11_5 = 1 then (if x8_1.length < 140737488355328 then (if x9_1.length < 140737488355328 then (arcaderef1_less.l0 kj5 l0 l1 (decide (x11_5 < 0)) (x8_1 ++ [true]) (x9_1 ++ [decide (x11_5 < 0)]) (wrap64 (x10_1 + 1))) else (none)) else (none)) else (if x8_1.length < 140737488355328 then (if x9_1.length < 140737488355328 then (arcaderef1_less.l0 kj5 l0 l1 (decide (x11_5 < 0)) (x8_1 ++ [(x11_5 == (-1))]) (x9_1 ++ [decide (x11_5 < 0)]) (wrap64 (x10_1 + 1))) else (none)) else (none))) = some (r1, r2) := by rw [if_neg (show ¬ (false = true) by decide)] at H; exact H
                      clear H
                      have H := H1
                      clear H1
                      by_cases c42 : x11_5 = 1
                      · rw [if_pos c42] at H
                        have c42b0 : (x11_5 == 1) = true := beq_iff_eq.mpr c42
                        have c42b1 : (x11_5 != 1) = false := bne_eq_false_iff_eq.mpr c42
                        clear c42
                        by_cases c43 : x8_1.length < 140737488355328
                        · rw [if_pos c43] at H
                          have LMc43 := Aside0.mk c43
                          clear c43
                          obtain ⟨y169, hy169⟩ : ∃ y_ : List Bool, y_ = (x8_1 ++ [true]) := ⟨_, rfl⟩
                          replace H : (if x9_1.length < 140737488355328 then (arcaderef1_less.l0 kj5 l0 l1 (decide (x11_5 < 0)) y169 (x9_1 ++ [decide (x11_5 < 0)]) (wrap64 (x10_1 + 1))) else (none)) = some (r1, r2) := by first | (rw [hy169]; with_reducible exact H) | (have H2_ := (Option.bind_some _ _).symm.trans H; rw [hy169]; with_reducible exact H2_) | (have H2_ := (Option.bind_some _ _).symm.trans H; with_reducible exact H2_) | with_reducible exact H | (rw [hy169]; exact H) | exact H
                          have Ny169 := Aside0.mk hy169
                          clear hy169
                          by_cases c44 : x9_1.length < 140737488355328
                          · rw [if_pos c44] at H
                            have LMc44 := Aside0.mk c44
                            clear c44
                            obtain ⟨y172, hy172⟩ : ∃ y_ : List Bool, y_ = (x9_1 ++ [decide (x11_5 < 0)]) := ⟨_, rfl⟩
                            replace H : (arcaderef1_less.l0 kj5 l0 l1 (decide (x11_5 < 0)) y169 y172 (wrap64 (x10_1 + 1))) = some (r1, r2) := by first | (rw [hy172]; with_reducible exact H) | (have H2_ := (Option.bind_some _ _).symm.trans H; rw [hy172]; with_reducible exact H2_) | (have H2_ := (Option.bind_some _ _).symm.trans H; with_reducible exact H2_) | with_reducible exact H | (rw [hy172]; exact H) | exact H
                            have Ny172 := Aside0.mk hy172
                            clear hy172
                            have H' := Aside0.mk H
                            clear H
                            have p132 : 0 ≤ (x10_1 : Int) := of_decide_eq_true (by first | (with_reducible assumption) | assumption)
                            have q132 : x10_1 < (l1.length : Int) := of_decide_eq_true (by first | (with_reducible assumption) | assumption)
                            obtain ⟨ad132, e132, hx132_0⟩ := Kd.at_bool HR1.out x10_1 p132 q132
                            (try rw [← Nbq11.out] at hx132_0)
                            cases e132
                            replace hx132_0 := (HB.out.cell (World.block_lt_of_cell? w _ hx132_0)).trans hx132_0
                            replace p132 := eq_true p132
                            replace q132 := eq_true q132
                            go_wp2_with (first | ((with_reducible refine gate_builtin (b := .append) (xs := #[.tmp 35, .tmp 42]) rfl ?_); at_builtin; refine Kd.R_append Kd.bool (w0 := w) w.heap.size rfl (.tmp 35) (.tmp 42) 45 4 (.bool false) 1 rfl Tryd.underlying45 info4 rfl (by decide) (by omega) u8 x8_1 true [.bool true] (fun k_ => some k_ ≠ (u9 : Value).ownBlock) (fun _ => False) rfl rfl ?aP (fun _ hk => hk.elim) ?aF ?aO ?aB ?aS ?aL ?_; (case aP => exact rfl); (case aB => exact (by repeat (first | (with_reducible first | exact HB.out | apply below_alloc | apply pw_below_drewN | apply below_drew1) | exact HB.out))); (case aF => exact (fun k_ hk => Kd.fresh' (Kd.R_lt (by (with_reducible repeat (first | apply Kd.R_alloc | apply Kd.R_drewN | apply Kd.R_drew)); exact HO_9.out)) k_ hk)); (case aO => exact (by (with_reducible repeat (first | apply Kd.R_alloc | apply Kd.R_drewN | apply Kd.R_drew)); exact HO_8.out)); (case aS => exact (below_size (by repeat (first | (with_reducible first | exact HB.out | apply below_alloc | apply pw_below_drewN | apply below_drew1) | exact HB.out)))); (case aL => have := LMc43.out; omega); intro v170 w45 ho hb hg hat; rw [← Ny169.out] at ho; have n0_ := Aside0.mk (Kd.R_after (ok := (fun _ => True)) (by (with_reducible repeat (first | apply Kd.R_alloc | apply Kd.R_drewN | apply Kd.R_drew)); exact Kd.R_mono HO_9.out (fun _ hk => ⟨trivial, hk⟩)) hg hat); have n1_ := Aside0.mk (hb); have n2_ := Aside0.mk (ho); clear HO_9; clear HB; clear HO_8; have HO_9 := n0_; have HB := n1_; have HO171 := n2_; clear n0_ n1_ n2_; clear ho hb hg hat) | ((with_reducible refine gate_builtin (b := .append) (xs := #[.tmp 44, .tmp 46]) rfl ?_); at_builtin; refine Kd.R_append Kd.bool (w0 := w) w.heap.size rfl (.tmp 44) (.tmp 46) 45 4 (.bool false) 1 rfl Tryd.underlying45 info4 rfl (by decide) (by omega) u9 x9_1 (decide (x11_5 < 0)) [.bool (decide (x11_5 < 0))] (fun k_ => some k_ ≠ (v170 : Value).ownBlock) (fun _ => False) rfl rfl ?aP (fun _ hk => hk.elim) ?aF ?aO ?aB ?aS ?aL ?_; (case aP => exact rfl); (case aB => exact (by repeat (first | (with_reducible first | exact HB.out | apply below_alloc | apply pw_below_drewN | apply below_drew1) | exact HB.out))); (case aF => exact (fun k_ hk => Kd.fresh' (Kd.R_lt (by (with_reducible repeat (first | apply Kd.R_alloc | apply Kd.R_drewN | apply Kd.R_drew)); exact HO171.out)) k_ hk)); (case aO => exact (by (with_reducible repeat (first | apply Kd.R_alloc | apply Kd.R_drewN | apply Kd.R_drew)); exact Kd.R_mono HO_9.out (fun _ hk => hk.2))); (case aS => exact (below_size (by repeat (first | (with_reducible first | exact HB.out | apply below_alloc | apply pw_below_drewN | apply below_drew1) | exact HB.out)))); (case aL => have := LMc44.out; omega); intro v173 w46 ho hb hg hat; rw [← Ny172.out] at ho; have n0_ := Aside0.mk (Kd.R_after (ok := (fun _ => True)) (by (with_reducible repeat (first | apply Kd.R_alloc | apply Kd.R_drewN | apply Kd.R_drew)); exact Kd.R_mono HO171.out (fun _ hk => ⟨trivial, hk⟩)) hg hat); have n1_ := Aside0.mk (hb); have n2_ := Aside0.mk (ho); clear HO171; clear HB; clear HO_9; have HO171 := n0_; have HB := n1_; have HO174 := n2_; clear n0_ n1_ n2_; clear ho hb hg hat))
                            go_roundg kj5
                            case measure => have := HK1.out; have := HJ5.out; omega
                            case rel => exact ⟨(decide (x11_5 < 0)), (y169), (y172), (wrap64 (x10_1 + 1)), (by first | rfl | (simp; done) | (simp [*]; done)), (by first | rfl | (simp; done) | (simp [*]; done)), H', ⟨by have := HK1.out; have := HJ5.out; omega⟩, ⟨by (with_reducible repeat (first | apply Kd.R_alloc | apply Kd.R_drewN | apply Kd.R_drew)); exact Kd.R_mono HO171.out (fun _ hk => hk.2)⟩, ⟨by (with_reducible repeat (first | apply Kd.R_alloc | apply Kd.R_drewN | apply Kd.R_drew)); exact HO174.out⟩, ⟨by repeat (first | (with_reducible first | exact HB.out | apply below_alloc | apply pw_below_drewN | apply below_drew1) | exact HB.out)⟩⟩
                          · rw [if_neg c44] at H
                            exact absurd H (by simp)
                        · rw [if_neg c43] at H
                          exact absurd H (by simp)
                      · rw [if_neg c42] at H
                        have c42b0 : (x11_5 == 1) = false := beq_eq_false_iff_ne.mpr c42
                        have c42b1 : (x11_5 != 1) = true := bne_iff_ne.mpr c42
                        by_cases c47 : x8_1.length < 140737488355328
                        · rw [if_pos c47] at H
                          have LMc47 := Aside0.mk c47
                          clear c47
                          obtain ⟨y175, hy175⟩ : ∃ y_ : List Bool, y_ = (x8_1 ++ [(x11_5 == (-1))]) := ⟨_, rfl⟩
                          replace H : (if x9_1.length < 140737488355328 then (arcaderef1_less.l0 kj5 l0 l1 (decide (x11_5 < 0)) y175 (x9_1 ++ [decide (x11_5 < 0)]) (wrap64 (x10_1 + 1))) else (none)) = some (r1, r2) := by first | (rw [hy175]; with_reducible exact H) | (have H2_ := (Option.bind_some _ _).symm.trans H; rw [hy175]; with_reducible exact H2_) | (have H2_ := (Option.bind_some _ _).symm.trans H; with_reducible exact H2_) | with_reducible exact H | (rw [hy175]; exact H) | exact H
                          have Ny175 := Aside0.mk hy175
                          clear hy175
                          by_cases c48 : x9_1.length < 140737488355328
                          · rw [if_pos c48] at H
                            have LMc48 := Aside0.mk c48
                            clear c48
                            obtain ⟨y178, hy178⟩ : ∃ y_ : List Bool, y_ = (x9_1 ++ [decide (x11_5 < 0)]) := ⟨_, rfl⟩
                            replace H : (arcaderef1_less.l0 kj5 l0 l1 (decide (x11_5 < 0)) y175 y178 (wrap64 (x10_1 + 1))) = some (r1, r2) := by first | (rw [hy178]; with_reducible exact H) | (have H2_ := (Option.bind_some _ _).symm.trans H; rw [hy178]; with_reducible exact H2_) | (have H2_ := (Option.bind_some _ _).symm.trans H; with_reducible exact H2_) | with_reducible exact H | (rw [hy178]; exact H) | exact H
                            have Ny178 := Aside0.mk hy178
                            clear hy178
                            have H' := Aside0.mk H
                            clear H
                            have p132 : 0 ≤ (x10_1 : Int) := of_decide_eq_true (by first | (with_reducible assumption) | assumption)
                            have q132 : x10_1 < (l1.length : Int) := of_decide_eq_true (by first | (with_reducible assumption) | assumption)
                            obtain ⟨ad132, e132, hx132_0⟩ := Kd.at_bool HR1.out x10_1 p132 q132
                            (try rw [← Nbq11.out] at hx132_0)
                            cases e132
                            replace hx132_0 := (HB.out.cell (World.block_lt_of_cell? w _ hx132_0)).trans hx132_0
                            replace p132 := eq_true p132
                            replace q132 := eq_true q132
                            go_wp2_with (first | ((with_reducible refine gate_builtin (b := .append) (xs := #[.tmp 35, .tmp 42]) rfl ?_); at_builtin; refine Kd.R_append Kd.bool (w0 := w) w.heap.size rfl (.tmp 35) (.tmp 42) 45 4 (.bool false) 1 rfl Tryd.underlying45 info4 rfl (by decide) (by omega) u8 x8_1 (x11_5 == (-1)) [.bool (x11_5 == (-1))] (fun k_ => some k_ ≠ (u9 : Value).ownBlock) (fun _ => False) rfl rfl ?aP (fun _ hk => hk.elim) ?aF ?aO ?aB ?aS ?aL ?_; (case aP => exact rfl); (case aB => exact (by repeat (first | (with_reducible first | exact HB.out | apply below_alloc | apply pw_below_drewN | apply below_drew1) | exact HB.out))); (case aF => exact (fun k_ hk => Kd.fresh' (Kd.R_lt (by (with_reducible repeat (first | apply Kd.R_alloc | apply Kd.R_drewN | apply Kd.R_drew)); exact HO_9.out)) k_ hk)); (case aO => exact (by (with_reducible repeat (first | apply Kd.R_alloc | apply Kd.R_drewN | apply Kd.R_drew)); exact HO_8.out)); (case aS => exact (below_size (by repeat (first | (with_reducible first | exact HB.out | apply below_alloc | apply pw_below_drewN | apply below_drew1) | exact HB.out)))); (case aL => have := LMc47.out; omega); intro v176 w49 ho hb hg hat; rw [← Ny175.out] at ho; have n0_ := Aside0.mk (Kd.R_after (ok := (fun _ => True)) (by (with_reducible repeat (first | apply Kd.R_alloc | apply Kd.R_drewN | apply Kd.R_drew)); exact Kd.R_mono HO_9.out (fun _ hk => ⟨trivial, hk⟩)) hg hat); have n1_ := Aside0.mk (hb); have n2_ := Aside0.mk (ho); clear HO_9; clear HB; clear HO_8; have HO_9 := n0_; have HB := n1_; have HO177 := n2_; clear n0_ n1_ n2_; clear ho hb hg hat) | ((with_reducible refine gate_builtin (b := .append) (xs := #[.tmp 44, .tmp 46]) rfl ?_); at_builtin; refine Kd.R_append Kd.bool (w0 := w) w.heap.size rfl (.tmp 44) (.tmp 46) 45 4 (.bool false) 1 rfl Tryd.underlying45 info4 rfl (by decide) (by omega) u9 x9_1 (decide (x11_5 < 0)) [.bool (decide (x11_5 < 0))] (fun k_ => some k_ ≠ (v176 : Value).ownBlock) (fun _ => False) rfl rfl ?aP (fun _ hk => hk.elim) ?aF ?aO ?aB ?aS ?aL ?_; (case aP => exact rfl); (case aB => exact (by repeat (first | (with_reducible first | exact HB.out | apply below_alloc | apply pw_below_drewN | apply below_drew1) | exact HB.out))); (case aF => exact (fun k_ hk => Kd.fresh' (Kd.R_lt (by (with_reducible repeat (first | apply Kd.R_alloc | apply Kd.R_drewN | apply Kd.R_drew)); exact HO177.out)) k_ hk)); (case aO => exact (by (with_reducible repeat (first | apply Kd.R_alloc | apply Kd.R_drewN | apply Kd.R_drew)); exact Kd.R_mono HO_9.out (fun _ hk => hk.2))); (case aS => exact (below_size (by repeat (first | (with_reducible first | exact HB.out | apply below_alloc | apply pw_below_drewN | apply below_drew1) | exact HB.out)))); (case aL => have := LMc48.out; omega); intro v179 w50 ho hb hg hat; rw [← Ny178.out] at ho; have n0_ := Aside0.mk (Kd.R_after (ok := (fun _ => True)) (by (with_reducible repeat (first | apply Kd.R_alloc | apply Kd.R_drewN | apply Kd.R_drew)); exact Kd.R_mono HO177.out (fun _ hk => ⟨trivial, hk⟩)) hg hat); have n1_ := Aside0.mk (hb); have n2_ := Aside0.mk (ho); clear HO177; clear HB; clear HO_9; have HO177 := n0_; have HB := n1_; have HO180 := n2_; clear n0_ n1_ n2_; clear ho hb hg hat))
                            go_roundg kj5
                            case measure => have := HK1.out; have := HJ5.out; omega
                            case rel => exact ⟨(decide (x11_5 < 0)), (y175), (y178), (wrap64 (x10_1 + 1)), (by first | rfl | (simp; done) | (simp [*]; done)), (by first | rfl | (simp; done) | (simp [*]; done)), H', ⟨by have := HK1.out; have := HJ5.out; omega⟩, ⟨by (with_reducible repeat (first | apply Kd.R_alloc | apply Kd.R_drewN | apply Kd.R_drew)); exact Kd.R_mono HO177.out (fun _ hk => hk.2)⟩, ⟨by (with_reducible repeat (first | apply Kd.R_alloc | apply Kd.R_drewN | apply Kd.R_drew)); exact HO180.out⟩, ⟨by repeat (first | (with_reducible first | exact HB.out | apply below_alloc | apply pw_below_drewN | apply below_drew1) | exact HB.out)⟩⟩
                          · rw [if_neg c48] at H
                            exact absurd H (by simp)
                        · rw [if_neg c47] at H
                          exact absurd H (by simp)
                · rw [if_neg c10] at H
                  exact absurd H (by simp)
              · rw [if_neg c9] at H
                exact absurd H (by simp)
        · rw [if_neg c5] at H
          exact absurd H (by simp)
      · rw [if_neg c4] at H
        have c4b0 : decide (x10_1 < (l0.length : Int)) = false := decide_eq_false c4
        clear c4
        simp only [Option.some.injEq, Prod.mk.injEq] at H
        obtain ⟨rfl, rfl⟩ := H
        go_wp2
        go_ret2
        exact ⟨_, _, by first | rfl | (simp [errW_none, errW_some] <;> rfl) | (simp [*, errW_none, errW_some] <;> rfl), by (with_reducible repeat (first | apply Kd.R_alloc | apply Kd.R_drewN | apply Kd.R_drew)); exact HO_8.out, by (with_reducible repeat (first | apply Kd.R_alloc | apply Kd.R_drewN | apply Kd.R_drew)); exact HO_9.out, by repeat (first | (with_reducible first | exact HB.out | apply below_alloc | apply pw_below_drewN | apply below_drew1) | exact HB.out)⟩

/-! ### arcaderef1_clean: function 35 -/
def arcaderef1_clean.f (a0 : Int) : Option (Int) := some ((a0 - (Int.tmod a0 16)) % 256)
set_option maxHeartbeats 8000000 in
set_option maxRecDepth 100000 in
theorem arcaderef1_clean.calls (a0 : Int) (r : Int) (w : World) (h : arcaderef1_clean.f a0 = some r) :
    Calls Tryd.prog 35 #[.int .u8 a0] w fun e w' => e = .returned (.int .u8 r) ∧ Drawn0 w w' := by
  have H : (some ((a0 - (Int.tmod a0 16)) % 256)) = some r := h
  clear h
  obtain rfl := Option.some.inj H
  go_enter Tryd.func35, Tryd.ntmps35
  go_wp2
  go_ret
  exact ⟨by first | rfl | (simp; done) | (simp [*]; done), by repeat (first | exact Drawn0.refl _ | apply Drawn0.step)⟩

end Go.Proofs.YtpkogmcafgplgaaDoor.PAluExact
