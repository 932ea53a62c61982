-- written by a program of this session (printx) out of the print of the given program
import Derived.Test.YtpkogmcafgplgaaDoorPAluExactx0
import Derived.Test.YtpkogmcafgplgaaDoorPAluExactx1
import Derived.Test.YtpkogmcafgplgaaDoorPAluExactx2
import Derived.Test.YtpkogmcafgplgaaDoorPAluExactx5
namespace Go.Proofs.YtpkogmcafgplgaaDoor.PAluExact
open Go.RowKit Go.Proofs.YtpkogmcafgplgaaDoorW.PrintWords Go.Proofs.YtpkogmcafgplgaaDoorW.PrintLast Go.Proofs.YtpkogmcafgplgaaDoorW.PrintMore
attribute [local go_sem] max2_int min2_int max_two min_two max_three min_three max_four min_four   -- for this text's walks alone
set_option linter.unusedVariables false
set_option linter.unusedSimpArgs false


/-! ### alu_Turn: function 19 -/
def alu_Turn.f (a0 : Int) (a1 : Int) (a2 : Int) : Option (Int × Int) := if 0 ≤ a1 ∧ a1 ≤ 255 ∧ 0 ≤ a2 ∧ a2 ≤ 255 then some (Go.Proofs.YtpkogmcafgplgaaDoor.AluC.turnV a0 a1 a2, Go.Proofs.YtpkogmcafgplgaaDoor.AluC.turnF a0 a1 a2) else none
theorem alu_Turn.calls (a0 : Int) (a1 : Int) (a2 : Int) (r1 : Int) (r2 : Int) (w : World) (h : alu_Turn.f a0 a1 a2 = some (r1, r2)) :
    Calls Tryd.prog 19 #[.int .i64 a0, .int .u8 a1, .int .u8 a2] w fun e w' => e = .returned (.tuple #[.int .u8 r1, .int .u8 r2]) ∧ Drawn0 w w' := by
  by_cases c : 0 ≤ a1 ∧ a1 ≤ 255 ∧ 0 ≤ a2 ∧ a2 ≤ 255
  · simp only [alu_Turn.f, if_pos c] at h
    injection h with h
    injection h with h1 h2
    subst h1 h2
    obtain ⟨c1, d1, c2, d2⟩ := c
    refine (Go.Proofs.YtpkogmcafgplgaaDoor.AluC.turn_any a0 a1 a2 w c1 d1 c2 d2).mono ?_
    rintro e w' ⟨rfl, rfl⟩
    exact ⟨rfl, Drawn0.refl _⟩
  · simp only [alu_Turn.f, if_neg c] at h
    cases h

/-! ### arcaderef1_Turn: function 20 -/
mutual
def arcaderef1_Turn.j0 : Nat → Int → Int → Int → Bool → Bool → Bool → Bool → Int → Bool → Option (Int × Int)
  | 0, _, _, _, _, _, _, _, _, _ => none
  | k + 1, x0, x1, x2, x8, x9, x10, x11, x25, x26 => if x26 = true then ((arcaderef1_Shift.f k x0 x1 x2).bind fun bt492 => (some (bt492.1, Int.tmod bt492.2 128))) else (if x25 = 4 then (if x9 = true then (if x11 = true then (arcaderef1_Turn.j1 k x9 x10 x11 (wrap64 ((wrap64 ((wrap64 (x1)) + 256)) - 96))) else (arcaderef1_Turn.j1 k x9 x10 x11 (wrap64 (x1)))) else (if x11 = true then (arcaderef1_Turn.j2 k x9 x10 x11 (wrap64 (x1)) (decide ((Int.tmod x1 16) > 9)) (decide (x1 > 153)) true) else (arcaderef1_Turn.j2 k x9 x10 x11 (wrap64 (x1)) (decide ((Int.tmod x1 16) > 9)) (decide (x1 > 153)) (decide (x1 > 153))))) else (if x25 = 5 then ((arcaderef1_flags.f k x8 true true x11).bind fun t500 => (some ((255 - x1) % 256, t500))) else (if x25 = 6 then ((arcaderef1_flags.f k x8 false false true).bind fun t501 => (some (x1, t501))) else (if x25 = 7 then ((arcaderef1_flags.f k x8 false false (!x11)).bind fun t502 => (some (x1, t502))) else ((arcaderef1_clean.f x2).bind fun t503 => (some (x1, t503)))))))
def arcaderef1_Turn.j1 : Nat → Bool → Bool → Bool → Int → Option (Int × Int)
  | 0, _, _, _, _ => none
  | k + 1, x9, x10, x11, x14 => if x10 = true then ((arcaderef1_flags.f k ((Int.tmod (wrap64 ((wrap64 (x14 + 256)) - 6)) 256) == 0) x9 false x11).bind fun t494 => (some ((Int.tmod (wrap64 ((wrap64 (x14 + 256)) - 6)) 256) % 256, t494))) else ((arcaderef1_flags.f k ((Int.tmod x14 256) == 0) x9 false x11).bind fun t495 => (some ((Int.tmod x14 256) % 256, t495)))
def arcaderef1_Turn.j2 : Nat → Bool → Bool → Bool → Int → Bool → Bool → Bool → Option (Int × Int)
  | 0, _, _, _, _, _, _, _ => none
  | k + 1, x9, x10, x11, x14, x15, x16, x62 => if x62 = true then (arcaderef1_Turn.j3 k x9 x10 x11 (wrap64 (x14 + 96)) x15 x16) else (arcaderef1_Turn.j3 k x9 x10 x11 x14 x15 x16)
def arcaderef1_Turn.j3 : Nat → Bool → Bool → Bool → Int → Bool → Bool → Option (Int × Int)
  | 0, _, _, _, _, _, _ => none
  | k + 1, x9, x10, x11, x14, x15, x16 => if x10 = true then (arcaderef1_Turn.j4 k x9 x11 x14 x16 true) else (arcaderef1_Turn.j4 k x9 x11 x14 x16 x15)
def arcaderef1_Turn.j4 : Nat → Bool → Bool → Int → Bool → Bool → Option (Int × Int)
  | 0, _, _, _, _, _ => none
  | k + 1, x9, x11, x14, x16, x68 => if x68 = true then (if x11 = true then ((arcaderef1_flags.f k ((Int.tmod (wrap64 (x14 + 6)) 256) == 0) x9 false true).bind fun t496 => (some ((Int.tmod (wrap64 (x14 + 6)) 256) % 256, t496))) else ((arcaderef1_flags.f k ((Int.tmod (wrap64 (x14 + 6)) 256) == 0) x9 false x16).bind fun t497 => (some ((Int.tmod (wrap64 (x14 + 6)) 256) % 256, t497)))) else (if x11 = true then ((arcaderef1_flags.f k ((Int.tmod x14 256) == 0) x9 false true).bind fun t498 => (some ((Int.tmod x14 256) % 256, t498))) else ((arcaderef1_flags.f k ((Int.tmod x14 256) == 0) x9 false x16).bind fun t499 => (some ((Int.tmod x14 256) % 256, t499))))
end
def arcaderef1_Turn.f (k : Nat) (a0 : Int) (a1 : Int) (a2 : Int) : Option (Int × Int) := (arcaderef1_has.f a2 128).bind fun t488 => ((arcaderef1_has.f a2 64).bind fun t489 => ((arcaderef1_has.f a2 32).bind fun t490 => ((arcaderef1_has.f a2 16).bind fun t491 => (if a0 = 0 then (arcaderef1_Turn.j0 k a0 a1 a2 t488 t489 t490 t491 a0 (a0 == 0)) else (if a0 = 1 then (arcaderef1_Turn.j0 k a0 a1 a2 t488 t489 t490 t491 a0 (a0 == 1)) else (if a0 = 2 then (arcaderef1_Turn.j0 k a0 a1 a2 t488 t489 t490 t491 a0 (a0 == 2)) else (arcaderef1_Turn.j0 k a0 a1 a2 t488 t489 t490 t491 a0 (a0 == 3))))))))
theorem arcaderef1_Turn.mono_l : ∀ k, (∀ y0 y1 y2 y3 y4 y5 y6 y7 y8, LeO (arcaderef1_Turn.j0 k y0 y1 y2 y3 y4 y5 y6 y7 y8) (arcaderef1_Turn.j0 (k + 1) y0 y1 y2 y3 y4 y5 y6 y7 y8)) ∧ (∀ y0 y1 y2 y3, LeO (arcaderef1_Turn.j1 k y0 y1 y2 y3) (arcaderef1_Turn.j1 (k + 1) y0 y1 y2 y3)) ∧ (∀ y0 y1 y2 y3 y4 y5 y6, LeO (arcaderef1_Turn.j2 k y0 y1 y2 y3 y4 y5 y6) (arcaderef1_Turn.j2 (k + 1) y0 y1 y2 y3 y4 y5 y6)) ∧ (∀ y0 y1 y2 y3 y4 y5, LeO (arcaderef1_Turn.j3 k y0 y1 y2 y3 y4 y5) (arcaderef1_Turn.j3 (k + 1) y0 y1 y2 y3 y4 y5)) ∧ (∀ y0 y1 y2 y3 y4, LeO (arcaderef1_Turn.j4 k y0 y1 y2 y3 y4) (arcaderef1_Turn.j4 (k + 1) y0 y1 y2 y3 y4))
  | 0 => ⟨fun _ _ _ _ _ _ _ _ _ r h => by simp [arcaderef1_Turn.j0] at h, fun _ _ _ _ r h => by simp [arcaderef1_Turn.j1] at h, fun _ _ _ _ _ _ _ r h => by simp [arcaderef1_Turn.j2] at h, fun _ _ _ _ _ _ r h => by simp [arcaderef1_Turn.j3] at h, fun _ _ _ _ _ r h => by simp [arcaderef1_Turn.j4] at h⟩
  | k + 1 => by
    obtain ⟨ih0, ih1, ih2, ih3, ih4⟩ := arcaderef1_Turn.mono_l k
    refine ⟨?_, ?_, ?_, ?_, ?_⟩
    · intro y0 y1 y2 y3 y4 y5 y6 y7 y8
      unfold arcaderef1_Turn.j0
      repeat' first
      | (with_reducible exact ih0 _ _ _ _ _ _ _ _ _)
      | (with_reducible exact ih1 _ _ _ _)
      | (with_reducible exact ih2 _ _ _ _ _ _ _)
      | (with_reducible exact ih3 _ _ _ _ _ _)
      | (with_reducible exact ih4 _ _ _ _ _)
      | (with_reducible exact arcaderef1_Shift.mono _ _ _ _)
      | (with_reducible exact arcaderef1_flags.mono _ _ _ _ _)
      | (with_reducible exact LeO.refl _)
      | (with_reducible exact LeO.none _)
      | (with_reducible refine LeO.ite ?_ ?_)
      | (with_reducible refine LeO.bind ?_ (fun _ => ?_))
      | exact ih0 _ _ _ _ _ _ _ _ _
      | exact ih1 _ _ _ _
      | exact ih2 _ _ _ _ _ _ _
      | exact ih3 _ _ _ _ _ _
      | exact ih4 _ _ _ _ _
      | exact arcaderef1_Shift.mono _ _ _ _
      | exact arcaderef1_flags.mono _ _ _ _ _
      | exact LeO.none _
      | refine LeO.ite ?_ ?_
      | refine LeO.bind ?_ (fun _ => ?_)
    · intro y0 y1 y2 y3
      unfold arcaderef1_Turn.j1
      repeat' first
      | (with_reducible exact ih0 _ _ _ _ _ _ _ _ _)
      | (with_reducible exact ih1 _ _ _ _)
      | (with_reducible exact ih2 _ _ _ _ _ _ _)
      | (with_reducible exact ih3 _ _ _ _ _ _)
      | (with_reducible exact ih4 _ _ _ _ _)
      | (with_reducible exact arcaderef1_Shift.mono _ _ _ _)
      | (with_reducible exact arcaderef1_flags.mono _ _ _ _ _)
      | (with_reducible exact LeO.refl _)
      | (with_reducible exact LeO.none _)
      | (with_reducible refine LeO.ite ?_ ?_)
      | (with_reducible refine LeO.bind ?_ (fun _ => ?_))
      | exact ih0 _ _ _ _ _ _ _ _ _
      | exact ih1 _ _ _ _
      | exact ih2 _ _ _ _ _ _ _
      | exact ih3 _ _ _ _ _ _
      | exact ih4 _ _ _ _ _
      | exact arcaderef1_Shift.mono _ _ _ _
      | exact arcaderef1_flags.mono _ _ _ _ _
      | exact LeO.none _
      | refine LeO.ite ?_ ?_
      | refine LeO.bind ?_ (fun _ => ?_)
    · intro y0 y1 y2 y3 y4 y5 y6
      unfold arcaderef1_Turn.j2
      repeat' first
      | (with_reducible exact ih0 _ _ _ _ _ _ _ _ _)
      | (with_reducible exact ih1 _ _ _ _)
      | (with_reducible exact ih2 _ _ _ _ _ _ _)
      | (with_reducible exact ih3 _ _ _ _ _ _)
      | (with_reducible exact ih4 _ _ _ _ _)
      | (with_reducible exact arcaderef1_Shift.mono _ _ _ _)
      | (with_reducible exact arcaderef1_flags.mono _ _ _ _ _)
      | (with_reducible exact LeO.refl _)
      | (with_reducible exact LeO.none _)
      | (with_reducible refine LeO.ite ?_ ?_)
      | (with_reducible refine LeO.bind ?_ (fun _ => ?_))
      | exact ih0 _ _ _ _ _ _ _ _ _
      | exact ih1 _ _ _ _
      | exact ih2 _ _ _ _ _ _ _
      | exact ih3 _ _ _ _ _ _
      | exact ih4 _ _ _ _ _
      | exact arcaderef1_Shift.mono _ _ _ _
      | exact arcaderef1_flags.mono _ _ _ _ _
      | exact LeO.none _
      | refine LeO.ite ?_ ?_
      | refine LeO.bind ?_ (fun _ => ?_)
    · intro y0 y1 y2 y3 y4 y5
      unfold arcaderef1_Turn.j3
      repeat' first
      | (with_reducible exact ih0 _ _ _ _ _ _ _ _ _)
      | (with_reducible exact ih1 _ _ _ _)
      | (with_reducible exact ih2 _ _ _ _ _ _ _)
      | (with_reducible exact ih3 _ _ _ _ _ _)
      | (with_reducible exact ih4 _ _ _ _ _)
      | (with_reducible exact arcaderef1_Shift.mono _ _ _ _)
      | (with_reducible exact arcaderef1_flags.mono _ _ _ _ _)
      | (with_reducible exact LeO.refl _)
      | (with_reducible exact LeO.none _)
      | (with_reducible refine LeO.ite ?_ ?_)
      | (with_reducible refine LeO.bind ?_ (fun _ => ?_))
      | exact ih0 _ _ _ _ _ _ _ _ _
      | exact ih1 _ _ _ _
      | exact ih2 _ _ _ _ _ _ _
      | exact ih3 _ _ _ _ _ _
      | exact ih4 _ _ _ _ _
      | exact arcaderef1_Shift.mono _ _ _ _
      | exact arcaderef1_flags.mono _ _ _ _ _
      | exact LeO.none _
      | refine LeO.ite ?_ ?_
      | refine LeO.bind ?_ (fun _ => ?_)
    · intro y0 y1 y2 y3 y4
      unfold arcaderef1_Turn.j4
      repeat' first
      | (with_reducible exact ih0 _ _ _ _ _ _ _ _ _)
      | (with_reducible exact ih1 _ _ _ _)
      | (with_reducible exact ih2 _ _ _ _ _ _ _)
      | (with_reducible exact ih3 _ _ _ _ _ _)
      | (with_reducible exact ih4 _ _ _ _ _)
      | (with_reducible exact arcaderef1_Shift.mono _ _ _ _)
      | (with_reducible exact arcaderef1_flags.mono _ _ _ _ _)
      | (with_reducible exact LeO.refl _)
      | (with_reducible exact LeO.none _)
      | (with_reducible refine LeO.ite ?_ ?_)
      | (with_reducible refine LeO.bind ?_ (fun _ => ?_))
      | exact ih0 _ _ _ _ _ _ _ _ _
      | exact ih1 _ _ _ _
      | exact ih2 _ _ _ _ _ _ _
      | exact ih3 _ _ _ _ _ _
      | exact ih4 _ _ _ _ _
      | exact arcaderef1_Shift.mono _ _ _ _
      | exact arcaderef1_flags.mono _ _ _ _ _
      | exact LeO.none _
      | refine LeO.ite ?_ ?_
      | refine LeO.bind ?_ (fun _ => ?_)
theorem arcaderef1_Turn.mono : ∀ a0 a1 a2 k, LeO (arcaderef1_Turn.f k a0 a1 a2) (arcaderef1_Turn.f (k + 1) a0 a1 a2) := by
  intro a0 a1 a2 k
  obtain ⟨ih0, ih1, ih2, ih3, ih4⟩ := arcaderef1_Turn.mono_l k
  unfold arcaderef1_Turn.f
  repeat' first
      | (with_reducible exact ih0 _ _ _ _ _ _ _ _ _)
      | (with_reducible exact ih1 _ _ _ _)
      | (with_reducible exact ih2 _ _ _ _ _ _ _)
      | (with_reducible exact ih3 _ _ _ _ _ _)
      | (with_reducible exact ih4 _ _ _ _ _)
      | (with_reducible exact arcaderef1_Shift.mono _ _ _ _)
      | (with_reducible exact arcaderef1_flags.mono _ _ _ _ _)
      | (with_reducible exact LeO.refl _)
      | (with_reducible exact LeO.none _)
      | (with_reducible refine LeO.ite ?_ ?_)
      | (with_reducible refine LeO.bind ?_ (fun _ => ?_))
      | exact ih0 _ _ _ _ _ _ _ _ _
      | exact ih1 _ _ _ _
      | exact ih2 _ _ _ _ _ _ _
      | exact ih3 _ _ _ _ _ _
      | exact ih4 _ _ _ _ _
      | exact arcaderef1_Shift.mono _ _ _ _
      | exact arcaderef1_flags.mono _ _ _ _ _
      | exact LeO.none _
      | refine LeO.ite ?_ ?_
      | refine LeO.bind ?_ (fun _ => ?_)
set_option maxHeartbeats 8000000 in
set_option maxRecDepth 100000 in
theorem arcaderef1_Turn.calls (k : Nat) (a0 : Int) (a1 : Int) (a2 : Int) (r1 : Int) (r2 : Int) (w : World) (h : arcaderef1_Turn.f k a0 a1 a2 = some (r1, r2)) :
    Calls Tryd.prog 20 #[.int .i64 a0, .int .u8 a1, .int .u8 a2] w fun e w' => e = .returned (.tuple #[.int .u8 r1, .int .u8 r2]) ∧ Below w.heap.size w w' := by
  have HB := Aside0.mk (Below.refl w.heap.size w)
  have H : ((arcaderef1_has.f a2 128).bind fun t488 => ((arcaderef1_has.f a2 64).bind fun t489 => ((arcaderef1_has.f a2 32).bind fun t490 => ((arcaderef1_has.f a2 16).bind fun t491 => (if a0 = 0 then (arcaderef1_Turn.j0 k a0 a1 a2 t488 t489 t490 t491 a0 (a0 == 0)) else (if a0 = 1 then (arcaderef1_Turn.j0 k a0 a1 a2 t488 t489 t490 t491 a0 (a0 == 1)) else (if a0 = 2 then (arcaderef1_Turn.j0 k a0 a1 a2 t488 t489 t490 t491 a0 (a0 == 2)) else (arcaderef1_Turn.j0 k a0 a1 a2 t488 t489 t490 t491 a0 (a0 == 3))))))))) = some (r1, r2) := h
  clear h
  replace H := Option.bind_eq_some_iff.mp H
  obtain ⟨t488, A40, H⟩ := H
  replace H : ((arcaderef1_has.f a2 64).bind fun t489 => ((arcaderef1_has.f a2 32).bind fun t490 => ((arcaderef1_has.f a2 16).bind fun t491 => (if a0 = 0 then (arcaderef1_Turn.j0 k a0 a1 a2 t488 t489 t490 t491 a0 (a0 == 0)) else (if a0 = 1 then (arcaderef1_Turn.j0 k a0 a1 a2 t488 t489 t490 t491 a0 (a0 == 1)) else (if a0 = 2 then (arcaderef1_Turn.j0 k a0 a1 a2 t488 t489 t490 t491 a0 (a0 == 2)) else (arcaderef1_Turn.j0 k a0 a1 a2 t488 t489 t490 t491 a0 (a0 == 3)))))))) = some (r1, r2) := H
  have A4 := Aside0.mk A40
  clear A40
  replace H := Option.bind_eq_some_iff.mp H
  obtain ⟨t489, A50, H⟩ := H
  replace H : ((arcaderef1_has.f a2 32).bind fun t490 => ((arcaderef1_has.f a2 16).bind fun t491 => (if a0 = 0 then (arcaderef1_Turn.j0 k a0 a1 a2 t488 t489 t490 t491 a0 (a0 == 0)) else (if a0 = 1 then (arcaderef1_Turn.j0 k a0 a1 a2 t488 t489 t490 t491 a0 (a0 == 1)) else (if a0 = 2 then (arcaderef1_Turn.j0 k a0 a1 a2 t488 t489 t490 t491 a0 (a0 == 2)) else (arcaderef1_Turn.j0 k a0 a1 a2 t488 t489 t490 t491 a0 (a0 == 3))))))) = some (r1, r2) := H
  have A5 := Aside0.mk A50
  clear A50
  replace H := Option.bind_eq_some_iff.mp H
  obtain ⟨t490, A60, H⟩ := H
  replace H : ((arcaderef1_has.f a2 16).bind fun t491 => (if a0 = 0 then (arcaderef1_Turn.j0 k a0 a1 a2 t488 t489 t490 t491 a0 (a0 == 0)) else (if a0 = 1 then (arcaderef1_Turn.j0 k a0 a1 a2 t488 t489 t490 t491 a0 (a0 == 1)) else (if a0 = 2 then (arcaderef1_Turn.j0 k a0 a1 a2 t488 t489 t490 t491 a0 (a0 == 2)) else (arcaderef1_Turn.j0 k a0 a1 a2 t488 t489 t490 t491 a0 (a0 == 3)))))) = some (r1, r2) := H
  have A6 := Aside0.mk A60
  clear A60
  replace H := Option.bind_eq_some_iff.mp H
  obtain ⟨t491, A70, H⟩ := H
  replace H : (if a0 = 0 then (arcaderef1_Turn.j0 k a0 a1 a2 t488 t489 t490 t491 a0 (a0 == 0)) else (if a0 = 1 then (arcaderef1_Turn.j0 k a0 a1 a2 t488 t489 t490 t491 a0 (a0 == 1)) else (if a0 = 2 then (arcaderef1_Turn.j0 k a0 a1 a2 t488 t489 t490 t491 a0 (a0 == 2)) else (arcaderef1_Turn.j0 k a0 a1 a2 t488 t489 t490 t491 a0 (a0 == 3))))) = some (r1, r2) := H
  have A7 := Aside0.mk A70
  clear A70
  have HC8 := Aside0.mk H
  clear H
  go_enter Tryd.func20, Tryd.ntmps20
  go_upto_if 26 with (first | ((with_reducible refine gate_callee (f := 30) rfl ?_); refine goesL_ (some 18) rfl rfl Tryd.func30 (by kernel_rfl) rfl #[.int .u8 a2, .int .u8 128] rfl (by (try simp only [List.map_toArray, List.map_cons, List.map_nil]); first | done | rfl | (simp only [List.length_drop, List.length_take]; rfl)) ?_; (with_reducible refine (arcaderef1_has.calls a2 128 t488 _ A4.out).mono ?_); rintro e w' ⟨rfl, ⟨nd, rfl⟩⟩; refine ⟨_, rfl, ?_⟩) | ((with_reducible refine gate_callee (f := 30) rfl ?_); refine goesL_ (some 20) rfl rfl Tryd.func30 (by kernel_rfl) rfl #[.int .u8 a2, .int .u8 64] rfl (by (try simp only [List.map_toArray, List.map_cons, List.map_nil]); first | done | rfl | (simp only [List.length_drop, List.length_take]; rfl)) ?_; (with_reducible refine (arcaderef1_has.calls a2 64 t489 _ A5.out).mono ?_); rintro e w' ⟨rfl, ⟨nd, rfl⟩⟩; refine ⟨_, rfl, ?_⟩) | ((with_reducible refine gate_callee (f := 30) rfl ?_); refine goesL_ (some 22) rfl rfl Tryd.func30 (by kernel_rfl) rfl #[.int .u8 a2, .int .u8 32] rfl (by (try simp only [List.map_toArray, List.map_cons, List.map_nil]); first | done | rfl | (simp only [List.length_drop, List.length_take]; rfl)) ?_; (with_reducible refine (arcaderef1_has.calls a2 32 t490 _ A6.out).mono ?_); rintro e w' ⟨rfl, ⟨nd, rfl⟩⟩; refine ⟨_, rfl, ?_⟩) | ((with_reducible refine gate_callee (f := 30) rfl ?_); refine goesL_ (some 24) rfl rfl Tryd.func30 (by kernel_rfl) rfl #[.int .u8 a2, .int .u8 16] rfl (by (try simp only [List.map_toArray, List.map_cons, List.map_nil]); first | done | rfl | (simp only [List.length_drop, List.length_take]; rfl)) ?_; (with_reducible refine (arcaderef1_has.calls a2 16 t491 _ A7.out).mono ?_); rintro e w' ⟨rfl, ⟨nd, rfl⟩⟩; refine ⟨_, rfl, ?_⟩))
  (try simp only [Act.put, List.setIfInBounds_toArray, List.set_cons_zero, List.set_cons_succ])
  go_cut [26] (fun v26 wc => ∃ (kq : Nat) (x26_7 : Bool), v26 = .bool x26_7 ∧ Aside0 (arcaderef1_Turn.j0 kq a0 a1 a2 t488 t489 t490 t491 a0 x26_7 = some (r1, r2)) ∧ Aside0 (kq ≤ k) ∧ Aside0 (Below w.heap.size w wc))
  case first =>
    have H := HC8.out
    clear HC8
    by_cases c9 : a0 = 0
    · rw [if_pos c9] at H
      have c9b0 : (a0 == 0) = true := beq_iff_eq.mpr c9
      have c9b1 : (a0 != 0) = false := bne_eq_false_iff_eq.mpr c9
      clear c9
      (first | rw [c9b0] | (simp only [i64_w, i32_w]; rw [c9b0]) | skip)
      have H' := Aside0.mk H
      clear H
      go_wp2
      go_meet
      case rel => exact ⟨_, ((a0 == 0)), (by first | rfl | (simp; done) | (simp [*]; done)), H', ⟨by first | omega | exact Nat.le_refl _⟩, ⟨by repeat (first | (with_reducible first | exact HB.out | apply below_alloc | apply pw_below_drewN | apply below_drew1) | exact HB.out)⟩⟩
    · rw [if_neg c9] at H
      have c9b0 : (a0 == 0) = false := beq_eq_false_iff_ne.mpr c9
      have c9b1 : (a0 != 0) = true := bne_iff_ne.mpr c9
      (first | rw [c9b0] | (simp only [i64_w, i32_w]; rw [c9b0]) | skip)
      by_cases c10 : a0 = 1
      · rw [if_pos c10] at H
        have c10b0 : (a0 == 1) = true := beq_iff_eq.mpr c10
        have c10b1 : (a0 != 1) = false := bne_eq_false_iff_eq.mpr c10
        clear c10
        have H' := Aside0.mk H
        clear H
        go_wp2
        go_meet
        case rel => exact ⟨_, ((a0 == 1)), (by first | rfl | (simp; done) | (simp [*]; done)), H', ⟨by first | omega | exact Nat.le_refl _⟩, ⟨by repeat (first | (with_reducible first | exact HB.out | apply below_alloc | apply pw_below_drewN | apply below_drew1) | exact HB.out)⟩⟩
      · rw [if_neg c10] at H
        have c10b0 : (a0 == 1) = false := beq_eq_false_iff_ne.mpr c10
        have c10b1 : (a0 != 1) = true := bne_iff_ne.mpr c10
        by_cases c11 : a0 = 2
        · rw [if_pos c11] at H
          have c11b0 : (a0 == 2) = true := beq_iff_eq.mpr c11
          have c11b1 : (a0 != 2) = false := bne_eq_false_iff_eq.mpr c11
          clear c11
          have H' := Aside0.mk H
          clear H
          go_wp2
          go_meet
          case rel => exact ⟨_, ((a0 == 2)), (by first | rfl | (simp; done) | (simp [*]; done)), H', ⟨by first | omega | exact Nat.le_refl _⟩, ⟨by repeat (first | (with_reducible first | exact HB.out | apply below_alloc | apply pw_below_drewN | apply below_drew1) | exact HB.out)⟩⟩
        · rw [if_neg c11] at H
          have c11b0 : (a0 == 2) = false := beq_eq_false_iff_ne.mpr c11
          have c11b1 : (a0 != 2) = true := bne_iff_ne.mpr c11
          have H' := Aside0.mk H
          clear H
          go_wp2
          go_meet
          case rel => exact ⟨_, ((a0 == 3)), (by first | rfl | (simp; done) | (simp [*]; done)), H', ⟨by first | omega | exact Nat.le_refl _⟩, ⟨by repeat (first | (with_reducible first | exact HB.out | apply below_alloc | apply pw_below_drewN | apply below_drew1) | exact HB.out)⟩⟩
  case rest =>
    clear HC8
    try clear c1
    try clear c2
    try clear p2
    try clear c3
    try clear c9
    try clear c9b0
    try clear c9b1
    try clear c10
    try clear c10b0
    try clear c10b1
    try clear c11
    try clear c11b0
    try clear c11b1
    obtain ⟨kq, x26_7, rfl, HA, HJ7, HB⟩ := hcut
    cases kq with
    | zero => exact absurd HA.out (by simp [arcaderef1_Turn.j0])
    | succ kj7 =>
      have H := HA.out
      clear HA
      simp only [arcaderef1_Turn.j0] at H
      by_cases c12 : x26_7 = true
      · subst c12
        have H1 : ((arcaderef1_Shift.f kj7 a0 a1 a2).bind fun bt492 => (some (bt492.1, Int.tmod bt492.2 128))) = some (r1, r2) := by rw [if_pos rfl] at H; exact H
        clear H
        have H := H1
        clear H1
        replace H := Option.bind_eq_some_iff.mp H
        obtain ⟨⟨t492, t493⟩, A130, H⟩ := H
        replace H : (some (t492, Int.tmod t493 128)) = some (r1, r2) := H
        have A13 := Aside0.mk A130
        clear A130
        simp only [Option.some.injEq, Prod.mk.injEq] at H
        obtain ⟨rfl, rfl⟩ := H
        go_wp2_with (first | ((with_reducible refine gate_callee (f := 18) rfl ?_); refine goesL_ (some 35) rfl rfl Tryd.func18 (by kernel_rfl) rfl #[.int .i64 a0, .int .u8 a1, .int .u8 a2] rfl (by (try simp only [List.map_toArray, List.map_cons, List.map_nil]); first | done | rfl | (simp only [List.length_drop, List.length_take]; rfl)) ?_; (with_reducible refine (arcaderef1_Shift.calls kj7 a0 a1 a2 t492 t493 _ A13.out).mono ?_); rintro e w14 ⟨rfl, hb⟩; refine ⟨_, rfl, ?_⟩; have n0_ := Aside0.mk (below_step (by repeat (first | (with_reducible first | exact HB.out | apply below_alloc | apply pw_below_drewN | apply below_drew1) | exact HB.out)) hb); clear HB; have HB := n0_; clear n0_; (try clear hb); (try clear hb2); (try clear hk); (try clear hi)))
        go_ret2
        exact ⟨by first | rfl | (simp [errW_none, errW_some] <;> rfl) | (simp [*, errW_none, errW_some] <;> rfl), by repeat (first | (with_reducible first | exact HB.out | apply below_alloc | apply pw_below_drewN | apply below_drew1) | exact HB.out)⟩
      · replace c12 := Bool.eq_false_iff.mpr c12
        subst c12
        have H1 : (if a0 = 4 then (if t489 = true then (if t491 = true then (arcaderef1_Turn.j1 kj7 t489 t490 t491 (wrap64 ((wrap64 ((wrap64 (a1)) + 256)) - 96))) else (arcaderef1_Turn.j1 kj7 t489 t490 t491 (wrap64 (a1)))) else (if t491 = true then (arcaderef1_Turn.j2 kj7 t489 t490 t491 (wrap64 (a1)) (decide ((Int.tmod a1 16) > 9)) (decide (a1 > 153)) true) else (arcaderef1_Turn.j2 kj7 t489 t490 t491 (wrap64 (a1)) (decide ((Int.tmod a1 16) > 9)) (decide (a1 > 153)) (decide (a1 > 153))))) else (if a0 = 5 then ((arcaderef1_flags.f kj7 t488 true true t491).bind fun t500 => (some ((255 - a1) % 256, t500))) else (if a0 = 6 then ((arcaderef1_flags.f kj7 t488 false false true).bind fun t501 => (some (a1, t501))) else (if a0 = 7 then ((arcaderef1_flags.f kj7 t488 false false (!t491)).bind fun t502 => (some (a1, t502))) else ((arcaderef1_clean.f a2).bind fun t503 => (some (a1, t503))))))) = some (r1, r2) := by rw [if_neg (show ¬ (false = true) by decide)] at H; exact H
        clear H
        have H := H1
        clear H1
        by_cases c15 : a0 = 4
        · rw [if_pos c15] at H
          have c15b0 : (a0 == 4) = true := beq_iff_eq.mpr c15
          have c15b1 : (a0 != 4) = false := bne_eq_false_iff_eq.mpr c15
          clear c15
          by_cases c16 : t489 = true
          · subst c16
            have H1 : (if t491 = true then (arcaderef1_Turn.j1 kj7 true t490 t491 (wrap64 ((wrap64 ((wrap64 (a1)) + 256)) - 96))) else (arcaderef1_Turn.j1 kj7 true t490 t491 (wrap64 (a1)))) = some (r1, r2) := by rw [if_pos rfl] at H; exact H
            clear H
            have H := H1
            clear H1
            have HC17 := Aside0.mk H
            clear H
            go_upto_if 46 with (fail)
            go_cut [14] (fun v14 wc => ∃ (kq : Nat) (x14_16 : Int), v14 = .int .i64 x14_16 ∧ Aside0 (arcaderef1_Turn.j1 kq true t490 t491 x14_16 = some (r1, r2)) ∧ Aside0 (kq ≤ kj7) ∧ Aside0 (Below w.heap.size w wc))
            case first =>
              have H := HC17.out
              clear HC17
              by_cases c18 : t491 = true
              · subst c18
                have H1 : (arcaderef1_Turn.j1 kj7 true t490 true (wrap64 ((wrap64 ((wrap64 (a1)) + 256)) - 96))) = some (r1, r2) := by rw [if_pos rfl] at H; exact H
                clear H
                have H := H1
                clear H1
                have H' := Aside0.mk H
                clear H
                go_wp2
                go_meet
                case rel => exact ⟨_, (wrap64 ((wrap64 ((wrap64 (a1)) + 256)) - 96)), (by first | rfl | (simp; done) | (simp [*]; done)), H', ⟨by have := HJ7.out; first | omega | exact Nat.le_refl _⟩, ⟨by repeat (first | (with_reducible first | exact HB.out | apply below_alloc | apply pw_below_drewN | apply below_drew1) | exact HB.out)⟩⟩
              · replace c18 := Bool.eq_false_iff.mpr c18
                subst c18
                have H1 : (arcaderef1_Turn.j1 kj7 true t490 false (wrap64 (a1))) = some (r1, r2) := by rw [if_neg (show ¬ (false = true) by decide)] at H; exact H
                clear H
                have H := H1
                clear H1
                have H' := Aside0.mk H
                clear H
                go_wp2
                go_meet
                case rel => exact ⟨_, (wrap64 (a1)), (by first | rfl | (simp; done) | (simp [*]; done)), H', ⟨by have := HJ7.out; first | omega | exact Nat.le_refl _⟩, ⟨by repeat (first | (with_reducible first | exact HB.out | apply below_alloc | apply pw_below_drewN | apply below_drew1) | exact HB.out)⟩⟩
            case rest =>
              clear HC17
              try clear c1
              try clear c2
              try clear p2
              try clear c3
              try clear p6
              try clear c9
              try clear c9b0
              try clear c9b1
              try clear c10
              try clear c10b0
              try clear c10b1
              try clear c11
              try clear c11b0
              try clear c11b1
              try clear c12
              try clear c15
              try clear c15b0
              try clear c15b1
              try clear c16
              try clear c18
              try clear p2
              obtain ⟨kq, x14_16, rfl, HA, HJ16, HB⟩ := hcut
              cases kq with
              | zero => exact absurd HA.out (by simp [arcaderef1_Turn.j1])
              | succ kj16 =>
                have H := HA.out
                clear HA
                simp only [arcaderef1_Turn.j1] at H
                by_cases c19 : t490 = true
                · subst c19
                  have H1 : ((arcaderef1_flags.f kj16 ((Int.tmod (wrap64 ((wrap64 (x14_16 + 256)) - 6)) 256) == 0) true false t491).bind fun t494 => (some ((Int.tmod (wrap64 ((wrap64 (x14_16 + 256)) - 6)) 256) % 256, t494))) = some (r1, r2) := by rw [if_pos rfl] at H; exact H
                  clear H
                  have H := H1
                  clear H1
                  replace H := Option.bind_eq_some_iff.mp H
                  obtain ⟨t494, A200, H⟩ := H
                  replace H : (some ((Int.tmod (wrap64 ((wrap64 (x14_16 + 256)) - 6)) 256) % 256, t494)) = some (r1, r2) := H
                  have A20 := Aside0.mk A200
                  clear A200
                  simp only [Option.some.injEq, Prod.mk.injEq] at H
                  obtain ⟨rfl, rfl⟩ := H
                  go_wp2_with (first | ((with_reducible refine gate_callee (f := 33) rfl ?_); refine goesL_ (some 83) rfl rfl Tryd.func33 (by kernel_rfl) rfl #[.bool ((Int.tmod (wrap64 ((wrap64 (x14_16 + 256)) - 6)) 256) == 0), .bool true, .bool false, .bool t491] rfl (by (try simp only [List.map_toArray, List.map_cons, List.map_nil]); first | done | rfl | (simp only [List.length_drop, List.length_take]; rfl)) ?_; (with_reducible refine (arcaderef1_flags.calls kj16 ((Int.tmod (wrap64 ((wrap64 (x14_16 + 256)) - 6)) 256) == 0) true false t491 t494 _ A20.out).mono ?_); rintro e w' ⟨rfl, ⟨nd, rfl⟩⟩; refine ⟨_, rfl, ?_⟩))
                  go_ret2
                  exact ⟨by first | rfl | (simp [errW_none, errW_some] <;> rfl) | (simp [*, errW_none, errW_some] <;> rfl), by repeat (first | (with_reducible first | exact HB.out | apply below_alloc | apply pw_below_drewN | apply below_drew1) | exact HB.out)⟩
                · replace c19 := Bool.eq_false_iff.mpr c19
                  subst c19
                  have H1 : ((arcaderef1_flags.f kj16 ((Int.tmod x14_16 256) == 0) true false t491).bind fun t495 => (some ((Int.tmod x14_16 256) % 256, t495))) = some (r1, r2) := by rw [if_neg (show ¬ (false = true) by decide)] at H; exact H
                  clear H
                  have H := H1
                  clear H1
                  replace H := Option.bind_eq_some_iff.mp H
                  obtain ⟨t495, A210, H⟩ := H
                  replace H : (some ((Int.tmod x14_16 256) % 256, t495)) = some (r1, r2) := H
                  have A21 := Aside0.mk A210
                  clear A210
                  simp only [Option.some.injEq, Prod.mk.injEq] at H
                  obtain ⟨rfl, rfl⟩ := H
                  go_wp2_with (first | ((with_reducible refine gate_callee (f := 33) rfl ?_); refine goesL_ (some 83) rfl rfl Tryd.func33 (by kernel_rfl) rfl #[.bool ((Int.tmod x14_16 256) == 0), .bool true, .bool false, .bool t491] rfl (by (try simp only [List.map_toArray, List.map_cons, List.map_nil]); first | done | rfl | (simp only [List.length_drop, List.length_take]; rfl)) ?_; (with_reducible refine (arcaderef1_flags.calls kj16 ((Int.tmod x14_16 256) == 0) true false t491 t495 _ A21.out).mono ?_); rintro e w' ⟨rfl, ⟨nd, rfl⟩⟩; refine ⟨_, rfl, ?_⟩))
                  go_ret2
                  exact ⟨by first | rfl | (simp [errW_none, errW_some] <;> rfl) | (simp [*, errW_none, errW_some] <;> rfl), by repeat (first | (with_reducible first | exact HB.out | apply below_alloc | apply pw_below_drewN | apply below_drew1) | exact HB.out)⟩
          · replace c16 := Bool.eq_false_iff.mpr c16
            subst c16
            have H1 : (if t491 = true then (arcaderef1_Turn.j2 kj7 false t490 t491 (wrap64 (a1)) (decide ((Int.tmod a1 16) > 9)) (decide (a1 > 153)) true) else (arcaderef1_Turn.j2 kj7 false t490 t491 (wrap64 (a1)) (decide ((Int.tmod a1 16) > 9)) (decide (a1 > 153)) (decide (a1 > 153)))) = some (r1, r2) := by rw [if_neg (show ¬ (false = true) by decide)] at H; exact H
            clear H
            have H := H1
            clear H1
            have HC22 := Aside0.mk H
            clear H
            go_upto_region 21 with (fail)
            go_cut [62] (fun v62 wc => ∃ (kq : Nat) (x62_21 : Bool), v62 = .bool x62_21 ∧ Aside0 (arcaderef1_Turn.j2 kq false t490 t491 (wrap64 (a1)) (decide ((Int.tmod a1 16) > 9)) (decide (a1 > 153)) x62_21 = some (r1, r2)) ∧ Aside0 (kq ≤ kj7) ∧ Aside0 (Below w.heap.size w wc))
            case first =>
              have H := HC22.out
              clear HC22
              by_cases c23 : t491 = true
              · subst c23
                have H1 : (arcaderef1_Turn.j2 kj7 false t490 true (wrap64 (a1)) (decide ((Int.tmod a1 16) > 9)) (decide (a1 > 153)) true) = some (r1, r2) := by rw [if_pos rfl] at H; exact H
                clear H
                have H := H1
                clear H1
                have H' := Aside0.mk H
                clear H
                go_wp2
                go_meet
                case rel => exact ⟨_, (true), (by first | rfl | (simp; done) | (simp [*]; done)), H', ⟨by have := HJ7.out; first | omega | exact Nat.le_refl _⟩, ⟨by repeat (first | (with_reducible first | exact HB.out | apply below_alloc | apply pw_below_drewN | apply below_drew1) | exact HB.out)⟩⟩
              · replace c23 := Bool.eq_false_iff.mpr c23
                subst c23
                have H1 : (arcaderef1_Turn.j2 kj7 false t490 false (wrap64 (a1)) (decide ((Int.tmod a1 16) > 9)) (decide (a1 > 153)) (decide (a1 > 153))) = some (r1, r2) := by rw [if_neg (show ¬ (false = true) by decide)] at H; exact H
                clear H
                have H := H1
                clear H1
                have H' := Aside0.mk H
                clear H
                go_wp2
                go_meet
                case rel => exact ⟨_, (decide (a1 > 153)), (by first | rfl | (simp; done) | (simp [*]; done)), H', ⟨by have := HJ7.out; first | omega | exact Nat.le_refl _⟩, ⟨by repeat (first | (with_reducible first | exact HB.out | apply below_alloc | apply pw_below_drewN | apply below_drew1) | exact HB.out)⟩⟩
            case rest =>
              clear HC22
              try clear c1
              try clear c2
              try clear p2
              try clear c3
              try clear p6
              try clear c9
              try clear c9b0
              try clear c9b1
              try clear c10
              try clear c10b0
              try clear c10b1
              try clear c11
              try clear c11b0
              try clear c11b1
              try clear c12
              try clear c15
              try clear c15b0
              try clear c15b1
              try clear c16
              try clear c18
              try clear c19
              try clear c20
              try clear c23
              try clear p2
              try clear p6
              obtain ⟨kq, x62_21, rfl, HA, HJ21, HB⟩ := hcut
              cases kq with
              | zero => exact absurd HA.out (by simp [arcaderef1_Turn.j2])
              | succ kj21 =>
                have H := HA.out
                clear HA
                simp only [arcaderef1_Turn.j2] at H
                have HC24 := Aside0.mk H
                clear H
                go_upto_if 62 with (fail)
                go_cut [14] (fun v14 wc => ∃ (kq : Nat) (x14_23 : Int), v14 = .int .i64 x14_23 ∧ Aside0 (arcaderef1_Turn.j3 kq false t490 t491 x14_23 (decide ((Int.tmod a1 16) > 9)) (decide (a1 > 153)) = some (r1, r2)) ∧ Aside0 (kq ≤ kj21) ∧ Aside0 (Below w.heap.size w wc))
                case first =>
                  have H := HC24.out
                  clear HC24
                  by_cases c25 : x62_21 = true
                  · subst c25
                    have H1 : (arcaderef1_Turn.j3 kj21 false t490 t491 (wrap64 ((wrap64 (a1)) + 96)) (decide ((Int.tmod a1 16) > 9)) (decide (a1 > 153))) = some (r1, r2) := by rw [if_pos rfl] at H; exact H
                    clear H
                    have H := H1
                    clear H1
                    have H' := Aside0.mk H
                    clear H
                    go_wp2
                    go_meet
                    case rel => exact ⟨_, (wrap64 ((wrap64 (a1)) + 96)), (by first | rfl | (simp; done) | (simp [*]; done)), H', ⟨by have := HJ7.out; have := HJ21.out; first | omega | exact Nat.le_refl _⟩, ⟨by repeat (first | (with_reducible first | exact HB.out | apply below_alloc | apply pw_below_drewN | apply below_drew1) | exact HB.out)⟩⟩
                  · replace c25 := Bool.eq_false_iff.mpr c25
                    subst c25
                    have H1 : (arcaderef1_Turn.j3 kj21 false t490 t491 (wrap64 (a1)) (decide ((Int.tmod a1 16) > 9)) (decide (a1 > 153))) = some (r1, r2) := by rw [if_neg (show ¬ (false = true) by decide)] at H; exact H
                    clear H
                    have H := H1
                    clear H1
                    have H' := Aside0.mk H
                    clear H
                    go_wp2
                    go_meet
                    case rel => exact ⟨_, ((wrap64 (a1))), (by first | rfl | (simp; done) | (simp [*]; done)), H', ⟨by have := HJ7.out; have := HJ21.out; first | omega | exact Nat.le_refl _⟩, ⟨by repeat (first | (with_reducible first | exact HB.out | apply below_alloc | apply pw_below_drewN | apply below_drew1) | exact HB.out)⟩⟩
                case rest =>
                  clear HC24
                  try clear c1
                  try clear c2
                  try clear p2
                  try clear c3
                  try clear p6
                  try clear c9
                  try clear c9b0
                  try clear c9b1
                  try clear c10
                  try clear c10b0
                  try clear c10b1
                  try clear c11
                  try clear c11b0
                  try clear c11b1
                  try clear c12
                  try clear c15
                  try clear c15b0
                  try clear c15b1
                  try clear c16
                  try clear c18
                  try clear c19
                  try clear c20
                  try clear c23
                  try clear c25
                  try clear p2
                  try clear p6
                  obtain ⟨kq, x14_23, rfl, HA, HJ23, HB⟩ := hcut
                  cases kq with
                  | zero => exact absurd HA.out (by simp [arcaderef1_Turn.j3])
                  | succ kj23 =>
                    have H := HA.out
                    clear HA
                    simp only [arcaderef1_Turn.j3] at H
                    have HC26 := Aside0.mk H
                    clear H
                    go_upto_region 23 with (fail)
                    go_cut [68] (fun v68 wc => ∃ (kq : Nat) (x68_25 : Bool), v68 = .bool x68_25 ∧ Aside0 (arcaderef1_Turn.j4 kq false t491 x14_23 (decide (a1 > 153)) x68_25 = some (r1, r2)) ∧ Aside0 (kq ≤ kj23) ∧ Aside0 (Below w.heap.size w wc))
                    case first =>
                      have H := HC26.out
                      clear HC26
                      by_cases c27 : t490 = true
                      · subst c27
                        have H1 : (arcaderef1_Turn.j4 kj23 false t491 x14_23 (decide (a1 > 153)) true) = some (r1, r2) := by rw [if_pos rfl] at H; exact H
                        clear H
                        have H := H1
                        clear H1
                        have H' := Aside0.mk H
                        clear H
                        go_wp2
                        go_meet
                        case rel => exact ⟨_, (true), (by first | rfl | (simp; done) | (simp [*]; done)), H', ⟨by have := HJ7.out; have := HJ21.out; have := HJ23.out; first | omega | exact Nat.le_refl _⟩, ⟨by repeat (first | (with_reducible first | exact HB.out | apply below_alloc | apply pw_below_drewN | apply below_drew1) | exact HB.out)⟩⟩
                      · replace c27 := Bool.eq_false_iff.mpr c27
                        subst c27
                        have H1 : (arcaderef1_Turn.j4 kj23 false t491 x14_23 (decide (a1 > 153)) (decide ((Int.tmod a1 16) > 9))) = some (r1, r2) := by rw [if_neg (show ¬ (false = true) by decide)] at H; exact H
                        clear H
                        have H := H1
                        clear H1
                        have H' := Aside0.mk H
                        clear H
                        go_wp2
                        go_meet
                        case rel => exact ⟨_, ((decide ((Int.tmod a1 16) > 9))), (by first | rfl | (simp; done) | (simp [*]; done)), H', ⟨by have := HJ7.out; have := HJ21.out; have := HJ23.out; first | omega | exact Nat.le_refl _⟩, ⟨by repeat (first | (with_reducible first | exact HB.out | apply below_alloc | apply pw_below_drewN | apply below_drew1) | exact HB.out)⟩⟩
                    case rest =>
                      clear HC26
                      try clear c1
                      try clear c2
                      try clear p2
                      try clear c3
                      try clear p6
                      try clear c9
                      try clear c9b0
                      try clear c9b1
                      try clear c10
                      try clear c10b0
                      try clear c10b1
                      try clear c11
                      try clear c11b0
                      try clear c11b1
                      try clear c12
                      try clear c15
                      try clear c15b0
                      try clear c15b1
                      try clear c16
                      try clear c18
                      try clear c19
                      try clear c20
                      try clear c23
                      try clear c25
                      try clear c27
                      try clear p2
                      try clear p6
                      obtain ⟨kq, x68_25, rfl, HA, HJ25, HB⟩ := hcut
                      cases kq with
                      | zero => exact absurd HA.out (by simp [arcaderef1_Turn.j4])
                      | succ kj25 =>
                        have H := HA.out
                        clear HA
                        simp only [arcaderef1_Turn.j4] at H
                        by_cases c28 : x68_25 = true
                        · subst c28
                          have H1 : (if t491 = true then ((arcaderef1_flags.f kj25 ((Int.tmod (wrap64 (x14_23 + 6)) 256) == 0) false false true).bind fun t496 => (some ((Int.tmod (wrap64 (x14_23 + 6)) 256) % 256, t496))) else ((arcaderef1_flags.f kj25 ((Int.tmod (wrap64 (x14_23 + 6)) 256) == 0) false false (decide (a1 > 153))).bind fun t497 => (some ((Int.tmod (wrap64 (x14_23 + 6)) 256) % 256, t497)))) = some (r1, r2) := by rw [if_pos rfl] at H; exact H
                          clear H
                          have H := H1
                          clear H1
                          by_cases c29 : t491 = true
                          · subst c29
                            have H1 : ((arcaderef1_flags.f kj25 ((Int.tmod (wrap64 (x14_23 + 6)) 256) == 0) false false true).bind fun t496 => (some ((Int.tmod (wrap64 (x14_23 + 6)) 256) % 256, t496))) = some (r1, r2) := by rw [if_pos rfl] at H; exact H
                            clear H
                            have H := H1
                            clear H1
                            replace H := Option.bind_eq_some_iff.mp H
                            obtain ⟨t496, A300, H⟩ := H
                            replace H : (some ((Int.tmod (wrap64 (x14_23 + 6)) 256) % 256, t496)) = some (r1, r2) := H
                            have A30 := Aside0.mk A300
                            clear A300
                            simp only [Option.some.injEq, Prod.mk.injEq] at H
                            obtain ⟨rfl, rfl⟩ := H
                            go_wp2_with (first | ((with_reducible refine gate_callee (f := 33) rfl ?_); refine goesL_ (some 83) rfl rfl Tryd.func33 (by kernel_rfl) rfl #[.bool ((Int.tmod (wrap64 (x14_23 + 6)) 256) == 0), .bool false, .bool false, .bool true] rfl (by (try simp only [List.map_toArray, List.map_cons, List.map_nil]); first | done | rfl | (simp only [List.length_drop, List.length_take]; rfl)) ?_; (with_reducible refine (arcaderef1_flags.calls kj25 ((Int.tmod (wrap64 (x14_23 + 6)) 256) == 0) false false true t496 _ A30.out).mono ?_); rintro e w' ⟨rfl, ⟨nd, rfl⟩⟩; refine ⟨_, rfl, ?_⟩))
                            go_ret2
                            exact ⟨by first | rfl | (simp [errW_none, errW_some] <;> rfl) | (simp [*, errW_none, errW_some] <;> rfl), by repeat (first | (with_reducible first | exact HB.out | apply below_alloc | apply pw_below_drewN | apply below_drew1) | exact HB.out)⟩
                          · replace c29 := Bool.eq_false_iff.mpr c29
                            subst c29
                            have H1 : ((arcaderef1_flags.f kj25 ((Int.tmod (wrap64 (x14_23 + 6)) 256) == 0) false false (decide (a1 > 153))).bind fun t497 => (some ((Int.tmod (wrap64 (x14_23 + 6)) 256) % 256, t497))) = some (r1, r2) := by rw [if_neg (show ¬ (false = true) by decide)] at H; exact H
                            clear H
                            have H := H1
                            clear H1
                            replace H := Option.bind_eq_some_iff.mp H
                            obtain ⟨t497, A310, H⟩ := H
                            replace H : (some ((Int.tmod (wrap64 (x14_23 + 6)) 256) % 256, t497)) = some (r1, r2) := H
                            have A31 := Aside0.mk A310
                            clear A310
                            simp only [Option.some.injEq, Prod.mk.injEq] at H
                            obtain ⟨rfl, rfl⟩ := H
                            go_wp2_with (first | ((with_reducible refine gate_callee (f := 33) rfl ?_); refine goesL_ (some 83) rfl rfl Tryd.func33 (by kernel_rfl) rfl #[.bool ((Int.tmod (wrap64 (x14_23 + 6)) 256) == 0), .bool false, .bool false, .bool (decide (a1 > 153))] rfl (by (try simp only [List.map_toArray, List.map_cons, List.map_nil]); first | done | rfl | (simp only [List.length_drop, List.length_take]; rfl)) ?_; (with_reducible refine (arcaderef1_flags.calls kj25 ((Int.tmod (wrap64 (x14_23 + 6)) 256) == 0) false false (decide (a1 > 153)) t497 _ A31.out).mono ?_); rintro e w' ⟨rfl, ⟨nd, rfl⟩⟩; refine ⟨_, rfl, ?_⟩))
                            go_ret2
                            exact ⟨by first | rfl | (simp [errW_none, errW_some] <;> rfl) | (simp [*, errW_none, errW_some] <;> rfl), by repeat (first | (with_reducible first | exact HB.out | apply below_alloc | apply pw_below_drewN | apply below_drew1) | exact HB.out)⟩
                        · replace c28 := Bool.eq_false_iff.mpr c28
                          subst c28
                          have H1 : (if t491 = true then ((arcaderef1_flags.f kj25 ((Int.tmod x14_23 256) == 0) false false true).bind fun t498 => (some ((Int.tmod x14_23 256) % 256, t498))) else ((arcaderef1_flags.f kj25 ((Int.tmod x14_23 256) == 0) false false (decide (a1 > 153))).bind fun t499 => (some ((Int.tmod x14_23 256) % 256, t499)))) = some (r1, r2) := by rw [if_neg (show ¬ (false = true) by decide)] at H; exact H
                          clear H
                          have H := H1
                          clear H1
                          by_cases c32 : t491 = true
                          · subst c32
                            have H1 : ((arcaderef1_flags.f kj25 ((Int.tmod x14_23 256) == 0) false false true).bind fun t498 => (some ((Int.tmod x14_23 256) % 256, t498))) = some (r1, r2) := by rw [if_pos rfl] at H; exact H
                            clear H
                            have H := H1
                            clear H1
                            replace H := Option.bind_eq_some_iff.mp H
                            obtain ⟨t498, A330, H⟩ := H
                            replace H : (some ((Int.tmod x14_23 256) % 256, t498)) = some (r1, r2) := H
                            have A33 := Aside0.mk A330
                            clear A330
                            simp only [Option.some.injEq, Prod.mk.injEq] at H
                            obtain ⟨rfl, rfl⟩ := H
                            go_wp2_with (first | ((with_reducible refine gate_callee (f := 33) rfl ?_); refine goesL_ (some 83) rfl rfl Tryd.func33 (by kernel_rfl) rfl #[.bool ((Int.tmod x14_23 256) == 0), .bool false, .bool false, .bool true] rfl (by (try simp only [List.map_toArray, List.map_cons, List.map_nil]); first | done | rfl | (simp only [List.length_drop, List.length_take]; rfl)) ?_; (with_reducible refine (arcaderef1_flags.calls kj25 ((Int.tmod x14_23 256) == 0) false false true t498 _ A33.out).mono ?_); rintro e w' ⟨rfl, ⟨nd, rfl⟩⟩; refine ⟨_, rfl, ?_⟩))
                            go_ret2
                            exact ⟨by first | rfl | (simp [errW_none, errW_some] <;> rfl) | (simp [*, errW_none, errW_some] <;> rfl), by repeat (first | (with_reducible first | exact HB.out | apply below_alloc | apply pw_below_drewN | apply below_drew1) | exact HB.out)⟩
                          · replace c32 := Bool.eq_false_iff.mpr c32
                            subst c32
                            have H1 : ((arcaderef1_flags.f kj25 ((Int.tmod x14_23 256) == 0) false false (decide (a1 > 153))).bind fun t499 => (some ((Int.tmod x14_23 256) % 256, t499))) = some (r1, r2) := by rw [if_neg (show ¬ (false = true) by decide)] at H; exact H
                            clear H
                            have H := H1
                            clear H1
                            replace H := Option.bind_eq_some_iff.mp H
                            obtain ⟨t499, A340, H⟩ := H
                            replace H : (some ((Int.tmod x14_23 256) % 256, t499)) = some (r1, r2) := H
                            have A34 := Aside0.mk A340
                            clear A340
                            simp only [Option.some.injEq, Prod.mk.injEq] at H
                            obtain ⟨rfl, rfl⟩ := H
                            go_wp2_with (first | ((with_reducible refine gate_callee (f := 33) rfl ?_); refine goesL_ (some 83) rfl rfl Tryd.func33 (by kernel_rfl) rfl #[.bool ((Int.tmod x14_23 256) == 0), .bool false, .bool false, .bool (decide (a1 > 153))] rfl (by (try simp only [List.map_toArray, List.map_cons, List.map_nil]); first | done | rfl | (simp only [List.length_drop, List.length_take]; rfl)) ?_; (with_reducible refine (arcaderef1_flags.calls kj25 ((Int.tmod x14_23 256) == 0) false false (decide (a1 > 153)) t499 _ A34.out).mono ?_); rintro e w' ⟨rfl, ⟨nd, rfl⟩⟩; refine ⟨_, rfl, ?_⟩))
                            go_ret2
                            exact ⟨by first | rfl | (simp [errW_none, errW_some] <;> rfl) | (simp [*, errW_none, errW_some] <;> rfl), by repeat (first | (with_reducible first | exact HB.out | apply below_alloc | apply pw_below_drewN | apply below_drew1) | exact HB.out)⟩
        · rw [if_neg c15] at H
          have c15b0 : (a0 == 4) = false := beq_eq_false_iff_ne.mpr c15
          have c15b1 : (a0 != 4) = true := bne_iff_ne.mpr c15
          by_cases c35 : a0 = 5
          · rw [if_pos c35] at H
            have c35b0 : (a0 == 5) = true := beq_iff_eq.mpr c35
            have c35b1 : (a0 != 5) = false := bne_eq_false_iff_eq.mpr c35
            clear c35
            replace H := Option.bind_eq_some_iff.mp H
            obtain ⟨t500, A360, H⟩ := H
            replace H : (some ((255 - a1) % 256, t500)) = some (r1, r2) := H
            have A36 := Aside0.mk A360
            clear A360
            simp only [Option.some.injEq, Prod.mk.injEq] at H
            obtain ⟨rfl, rfl⟩ := H
            go_wp2_with (first | ((with_reducible refine gate_callee (f := 33) rfl ?_); refine goesL_ (some 90) rfl rfl Tryd.func33 (by kernel_rfl) rfl #[.bool t488, .bool true, .bool true, .bool t491] rfl (by (try simp only [List.map_toArray, List.map_cons, List.map_nil]); first | done | rfl | (simp only [List.length_drop, List.length_take]; rfl)) ?_; (with_reducible refine (arcaderef1_flags.calls kj7 t488 true true t491 t500 _ A36.out).mono ?_); rintro e w' ⟨rfl, ⟨nd, rfl⟩⟩; refine ⟨_, rfl, ?_⟩))
            go_ret2
            exact ⟨by first | rfl | (simp [errW_none, errW_some] <;> rfl) | (simp [*, errW_none, errW_some] <;> rfl), by repeat (first | (with_reducible first | exact HB.out | apply below_alloc | apply pw_below_drewN | apply below_drew1) | exact HB.out)⟩
          · rw [if_neg c35] at H
            have c35b0 : (a0 == 5) = false := beq_eq_false_iff_ne.mpr c35
            have c35b1 : (a0 != 5) = true := bne_iff_ne.mpr c35
            by_cases c37 : a0 = 6
            · rw [if_pos c37] at H
              have c37b0 : (a0 == 6) = true := beq_iff_eq.mpr c37
              have c37b1 : (a0 != 6) = false := bne_eq_false_iff_eq.mpr c37
              clear c37
              replace H := Option.bind_eq_some_iff.mp H
              obtain ⟨t501, A380, H⟩ := H
              replace H : (some (a1, t501)) = some (r1, r2) := H
              have A38 := Aside0.mk A380
              clear A380
              simp only [Option.some.injEq, Prod.mk.injEq] at H
              obtain ⟨rfl, rfl⟩ := H
              go_wp2_with (first | ((with_reducible refine gate_callee (f := 33) rfl ?_); refine goesL_ (some 95) rfl rfl Tryd.func33 (by kernel_rfl) rfl #[.bool t488, .bool false, .bool false, .bool true] rfl (by (try simp only [List.map_toArray, List.map_cons, List.map_nil]); first | done | rfl | (simp only [List.length_drop, List.length_take]; rfl)) ?_; (with_reducible refine (arcaderef1_flags.calls kj7 t488 false false true t501 _ A38.out).mono ?_); rintro e w' ⟨rfl, ⟨nd, rfl⟩⟩; refine ⟨_, rfl, ?_⟩))
              go_ret2
              exact ⟨by first | rfl | (simp [errW_none, errW_some] <;> rfl) | (simp [*, errW_none, errW_some] <;> rfl), by repeat (first | (with_reducible first | exact HB.out | apply below_alloc | apply pw_below_drewN | apply below_drew1) | exact HB.out)⟩
            · rw [if_neg c37] at H
              have c37b0 : (a0 == 6) = false := beq_eq_false_iff_ne.mpr c37
              have c37b1 : (a0 != 6) = true := bne_iff_ne.mpr c37
              by_cases c39 : a0 = 7
              · rw [if_pos c39] at H
                have c39b0 : (a0 == 7) = true := beq_iff_eq.mpr c39
                have c39b1 : (a0 != 7) = false := bne_eq_false_iff_eq.mpr c39
                clear c39
                replace H := Option.bind_eq_some_iff.mp H
                obtain ⟨t502, A400, H⟩ := H
                replace H : (some (a1, t502)) = some (r1, r2) := H
                have A40 := Aside0.mk A400
                clear A400
                simp only [Option.some.injEq, Prod.mk.injEq] at H
                obtain ⟨rfl, rfl⟩ := H
                go_wp2_with (first | ((with_reducible refine gate_callee (f := 33) rfl ?_); refine goesL_ (some 102) rfl rfl Tryd.func33 (by kernel_rfl) rfl #[.bool t488, .bool false, .bool false, .bool (!t491)] rfl (by (try simp only [List.map_toArray, List.map_cons, List.map_nil]); first | done | rfl | (simp only [List.length_drop, List.length_take]; rfl)) ?_; (with_reducible refine (arcaderef1_flags.calls kj7 t488 false false (!t491) t502 _ A40.out).mono ?_); rintro e w' ⟨rfl, ⟨nd, rfl⟩⟩; refine ⟨_, rfl, ?_⟩))
                go_ret2
                exact ⟨by first | rfl | (simp [errW_none, errW_some] <;> rfl) | (simp [*, errW_none, errW_some] <;> rfl), by repeat (first | (with_reducible first | exact HB.out | apply below_alloc | apply pw_below_drewN | apply below_drew1) | exact HB.out)⟩
              · rw [if_neg c39] at H
                have c39b0 : (a0 == 7) = false := beq_eq_false_iff_ne.mpr c39
                have c39b1 : (a0 != 7) = true := bne_iff_ne.mpr c39
                replace H := Option.bind_eq_some_iff.mp H
                obtain ⟨t503, A410, H⟩ := H
                replace H : (some (a1, t503)) = some (r1, r2) := H
                have A41 := Aside0.mk A410
                clear A410
                simp only [Option.some.injEq, Prod.mk.injEq] at H
                obtain ⟨rfl, rfl⟩ := H
                go_wp2_with (first | ((with_reducible refine gate_callee (f := 35) rfl ?_); refine goesL_ (some 105) rfl rfl Tryd.func35 (by kernel_rfl) rfl #[.int .u8 a2] rfl (by (try simp only [List.map_toArray, List.map_cons, List.map_nil]); first | done | rfl | (simp only [List.length_drop, List.length_take]; rfl)) ?_; (with_reducible refine (arcaderef1_clean.calls a2 t503 _ A41.out).mono ?_); rintro e w' ⟨rfl, ⟨nd, rfl⟩⟩; refine ⟨_, rfl, ?_⟩))
                go_ret2
                exact ⟨by first | rfl | (simp [errW_none, errW_some] <;> rfl) | (simp [*, errW_none, errW_some] <;> rfl), by repeat (first | (with_reducible first | exact HB.out | apply below_alloc | apply pw_below_drewN | apply below_drew1) | exact HB.out)⟩

/-! ### arcaderef1_Bit: function 21 -/
def arcaderef1_Bit.j0 : Nat → Int → Int → Int → Bool → Option (Int)
  | 0, _, _, _, _ => none
  | k + 1, x0, x1, x2, x14 => if x14 = true then ((arcaderef1_clean.f x2).bind fun t504 => (some t504)) else ((arcaderef1_bits.f k (wrap64 (x1)) 8).bind fun t505 => ((arcaderef1_has.f x2 16).bind fun t508 => (if 0 ≤ x0 then (if x0 < (t505.length : Int) then ((arcaderef1_flags.f k (!(rdOf false t505 x0)) false true t508).bind fun t510 => (some t510)) else (none)) else (none))))
def arcaderef1_Bit.f (k : Nat) (a0 : Int) (a1 : Int) (a2 : Int) : Option (Int) := if a0 < 0 then (arcaderef1_Bit.j0 k a0 a1 a2 true) else (arcaderef1_Bit.j0 k a0 a1 a2 (decide (a0 > 7)))
theorem arcaderef1_Bit.mono_l : ∀ k, (∀ y0 y1 y2 y3, LeO (arcaderef1_Bit.j0 k y0 y1 y2 y3) (arcaderef1_Bit.j0 (k + 1) y0 y1 y2 y3))
  | 0 => fun _ _ _ _ r h => by simp [arcaderef1_Bit.j0] at h
  | k + 1 => by
    have ih0 := arcaderef1_Bit.mono_l k
    · intro y0 y1 y2 y3
      unfold arcaderef1_Bit.j0
      repeat' first
      | (with_reducible exact ih0 _ _ _ _)
      | (with_reducible exact arcaderef1_bits.mono _ _ _)
      | (with_reducible exact arcaderef1_flags.mono _ _ _ _ _)
      | (with_reducible exact LeO.refl _)
      | (with_reducible exact LeO.none _)
      | (with_reducible refine LeO.ite ?_ ?_)
      | (with_reducible refine LeO.bind ?_ (fun _ => ?_))
      | exact ih0 _ _ _ _
      | exact arcaderef1_bits.mono _ _ _
      | exact arcaderef1_flags.mono _ _ _ _ _
      | exact LeO.none _
      | refine LeO.ite ?_ ?_
      | refine LeO.bind ?_ (fun _ => ?_)
theorem arcaderef1_Bit.mono : ∀ a0 a1 a2 k, LeO (arcaderef1_Bit.f k a0 a1 a2) (arcaderef1_Bit.f (k + 1) a0 a1 a2) := by
  intro a0 a1 a2 k
  have ih0 := arcaderef1_Bit.mono_l k
  unfold arcaderef1_Bit.f
  repeat' first
      | (with_reducible exact ih0 _ _ _ _)
      | (with_reducible exact arcaderef1_bits.mono _ _ _)
      | (with_reducible exact arcaderef1_flags.mono _ _ _ _ _)
      | (with_reducible exact LeO.refl _)
      | (with_reducible exact LeO.none _)
      | (with_reducible refine LeO.ite ?_ ?_)
      | (with_reducible refine LeO.bind ?_ (fun _ => ?_))
      | exact ih0 _ _ _ _
      | exact arcaderef1_bits.mono _ _ _
      | exact arcaderef1_flags.mono _ _ _ _ _
      | exact LeO.none _
      | refine LeO.ite ?_ ?_
      | refine LeO.bind ?_ (fun _ => ?_)
set_option maxHeartbeats 8000000 in
set_option maxRecDepth 100000 in
theorem arcaderef1_Bit.calls (k : Nat) (a0 : Int) (a1 : Int) (a2 : Int) (r : Int) (w : World) (h : arcaderef1_Bit.f k a0 a1 a2 = some r) :
    Calls Tryd.prog 21 #[.int .i64 a0, .int .u8 a1, .int .u8 a2] w fun e w' => e = .returned (.int .u8 r) ∧ Below w.heap.size w w' := by
  have HB := Aside0.mk (Below.refl w.heap.size w)
  have H : (if a0 < 0 then (arcaderef1_Bit.j0 k a0 a1 a2 true) else (arcaderef1_Bit.j0 k a0 a1 a2 (decide (a0 > 7)))) = some r := h
  clear h
  have HC4 := Aside0.mk H
  clear H
  go_enter Tryd.func21, Tryd.ntmps21
  go_upto_region 1 with (fail)
  go_cut [14] (fun v14 wc => ∃ (kq : Nat) (x14_3 : Bool), v14 = .bool x14_3 ∧ Aside0 (arcaderef1_Bit.j0 kq a0 a1 a2 x14_3 = some r) ∧ Aside0 (kq ≤ k) ∧ Aside0 (Below w.heap.size w wc))
  case first =>
    have H := HC4.out
    clear HC4
    by_cases c5 : a0 < 0
    · rw [if_pos c5] at H
      have c5b0 : decide (a0 < 0) = true := decide_eq_true c5
      clear c5
      (first | rw [c5b0] | (simp only [i64_w, i32_w]; rw [c5b0]) | skip)
      have H' := Aside0.mk H
      clear H
      go_wp2
      go_meet
      case rel => exact ⟨_, (true), (by first | rfl | (simp; done) | (simp [*]; done)), H', ⟨by first | omega | exact Nat.le_refl _⟩, ⟨by repeat (first | (with_reducible first | exact HB.out | apply below_alloc | apply pw_below_drewN | apply below_drew1) | exact HB.out)⟩⟩
    · rw [if_neg c5] at H
      have c5b0 : decide (a0 < 0) = false := decide_eq_false c5
      clear c5
      (first | rw [c5b0] | (simp only [i64_w, i32_w]; rw [c5b0]) | skip)
      have H' := Aside0.mk H
      clear H
      go_wp2
      go_meet
      case rel => exact ⟨_, (decide (a0 > 7)), (by first | rfl | (simp; done) | (simp [*]; done)), H', ⟨by first | omega | exact Nat.le_refl _⟩, ⟨by repeat (first | (with_reducible first | exact HB.out | apply below_alloc | apply pw_below_drewN | apply below_drew1) | exact HB.out)⟩⟩
  case rest =>
    clear HC4
    try clear c2
    try clear p2
    try clear c5
    try clear c5b0
    obtain ⟨kq, x14_3, rfl, HA, HJ3, HB⟩ := hcut
    cases kq with
    | zero => exact absurd HA.out (by simp [arcaderef1_Bit.j0])
    | succ kj3 =>
      have H := HA.out
      clear HA
      simp only [arcaderef1_Bit.j0] at H
      by_cases c6 : x14_3 = true
      · subst c6
        have H1 : ((arcaderef1_clean.f a2).bind fun t504 => (some t504)) = some r := by rw [if_pos rfl] at H; exact H
        clear H
        have H := H1
        clear H1
        replace H := Option.bind_eq_some_iff.mp H
        obtain ⟨t504, A70, H⟩ := H
        replace H : (some t504) = some r := H
        have A7 := Aside0.mk A70
        clear A70
        obtain rfl := Option.some.inj H
        go_wp2_with (first | ((with_reducible refine gate_callee (f := 35) rfl ?_); refine goesL_ (some 16) rfl rfl Tryd.func35 (by kernel_rfl) rfl #[.int .u8 a2] rfl (by (try simp only [List.map_toArray, List.map_cons, List.map_nil]); first | done | rfl | (simp only [List.length_drop, List.length_take]; rfl)) ?_; (with_reducible refine (arcaderef1_clean.calls a2 t504 _ A7.out).mono ?_); rintro e w' ⟨rfl, ⟨nd, rfl⟩⟩; refine ⟨_, rfl, ?_⟩))
        go_ret
        exact ⟨by first | rfl | (simp [errW_none, errW_some] <;> rfl) | (simp [*, errW_none, errW_some] <;> rfl), by repeat (first | (with_reducible first | exact HB.out | apply below_alloc | apply pw_below_drewN | apply below_drew1) | exact HB.out)⟩
      · replace c6 := Bool.eq_false_iff.mpr c6
        subst c6
        have H1 : ((arcaderef1_bits.f kj3 (wrap64 (a1)) 8).bind fun t505 => ((arcaderef1_has.f a2 16).bind fun t508 => (if 0 ≤ a0 then (if a0 < (t505.length : Int) then ((arcaderef1_flags.f kj3 (!(rdOf false t505 a0)) false true t508).bind fun t510 => (some t510)) else (none)) else (none)))) = some r := by rw [if_neg (show ¬ (false = true) by decide)] at H; exact H
        clear H
        have H := H1
        clear H1
        replace H := Option.bind_eq_some_iff.mp H
        obtain ⟨t505, A80, H⟩ := H
        replace H : ((arcaderef1_has.f a2 16).bind fun t508 => (if 0 ≤ a0 then (if a0 < (t505.length : Int) then ((arcaderef1_flags.f kj3 (!(rdOf false t505 a0)) false true t508).bind fun t510 => (some t510)) else (none)) else (none))) = some r := H
        have A8 := Aside0.mk A80
        clear A80
        replace H := Option.bind_eq_some_iff.mp H
        obtain ⟨t508, A90, H⟩ := H
        replace H : (if 0 ≤ a0 then (if a0 < (t505.length : Int) then ((arcaderef1_flags.f kj3 (!(rdOf false t505 a0)) false true t508).bind fun t510 => (some t510)) else (none)) else (none)) = some r := H
        have A9 := Aside0.mk A90
        clear A90
        by_cases c10 : 0 ≤ a0
        · rw [if_pos c10] at H
          have c10b0 : decide (0 ≤ a0) = true := decide_eq_true c10
          clear c10
          by_cases c11 : a0 < (t505.length : Int)
          · rw [if_pos c11] at H
            have c11b0 : decide (a0 < (t505.length : Int)) = true := decide_eq_true c11
            clear c11
            replace H := Option.bind_eq_some_iff.mp H
            obtain ⟨t510, A120, H⟩ := H
            replace H : (some t510) = some r := H
            have A12 := Aside0.mk A120
            clear A120
            obtain rfl := Option.some.inj H
            go_wp2_with (first | ((with_reducible refine gate_callee (f := 29) rfl ?_); refine goesL_ (some 19) rfl rfl Tryd.func29 (by kernel_rfl) rfl #[.int .i64 (wrap64 (a1)), .int .i64 8] rfl (by (try simp only [List.map_toArray, List.map_cons, List.map_nil]); first | done | rfl | (simp only [List.length_drop, List.length_take]; rfl)) ?_; (with_reducible refine (arcaderef1_bits.calls kj3 (wrap64 (a1)) 8 t505 _ A8.out).mono ?_); rintro e w13 ⟨v506, rfl, ho0, hb⟩; refine ⟨_, rfl, ?_⟩; have n0_ := Aside0.mk (Kd.R_lower ho0 (below_size (by repeat (first | (with_reducible first | exact HB.out | apply below_alloc | apply pw_below_drewN | apply below_drew1) | exact HB.out)))); have n1_ := Aside0.mk (below_step (by repeat (first | (with_reducible first | exact HB.out | apply below_alloc | apply pw_below_drewN | apply below_drew1) | exact HB.out)) hb); clear HB; have HO507 := n0_; have HB := n1_; clear n0_ n1_; (try clear hb); (try clear hb2); (try clear hk); (try clear hi); (try clear ho0)) | ((with_reducible refine gate_callee (f := 30) rfl ?_); refine goesL_ (some 21) rfl rfl Tryd.func30 (by kernel_rfl) rfl #[.int .u8 a2, .int .u8 16] rfl (by (try simp only [List.map_toArray, List.map_cons, List.map_nil]); first | done | rfl | (simp only [List.length_drop, List.length_take]; rfl)) ?_; (with_reducible refine (arcaderef1_has.calls a2 16 t508 _ A9.out).mono ?_); rintro e w' ⟨rfl, ⟨nd, rfl⟩⟩; refine ⟨_, rfl, ?_⟩; obtain ⟨Ao14, co14, eo14⟩ := Kd.R_slice HO507.out; subst eo14; have p509 : 0 ≤ (a0 : Int) := of_decide_eq_true (by first | (with_reducible assumption) | assumption); have q509 : a0 < (t505.length : Int) := of_decide_eq_true (by first | (with_reducible assumption) | assumption); obtain ⟨ad509, e509, hx509_0⟩ := Kd.at_bool (Kd.R_reads' HO507.out).2.2 a0 p509 q509; cases e509; replace p509 := eq_true p509; replace q509 := eq_true q509) | ((with_reducible refine gate_callee (f := 33) rfl ?_); refine goesL_ (some 28) rfl rfl Tryd.func33 (by kernel_rfl) rfl #[.bool (!(rdOf false t505 a0)), .bool false, .bool true, .bool t508] rfl (by (try simp only [List.map_toArray, List.map_cons, List.map_nil]); first | done | rfl | (simp only [List.length_drop, List.length_take]; rfl)) ?_; (with_reducible refine (arcaderef1_flags.calls kj3 (!(rdOf false t505 a0)) false true t508 t510 _ A12.out).mono ?_); rintro e w' ⟨rfl, ⟨nd, rfl⟩⟩; refine ⟨_, rfl, ?_⟩))
            go_ret
            exact ⟨by first | rfl | (simp [errW_none, errW_some] <;> rfl) | (simp [*, errW_none, errW_some] <;> rfl), by repeat (first | (with_reducible first | exact HB.out | apply below_alloc | apply pw_below_drewN | apply below_drew1) | exact HB.out)⟩
          · rw [if_neg c11] at H
            exact absurd H (by simp)
        · rw [if_neg c10] at H
          exact absurd H (by simp)

end Go.Proofs.YtpkogmcafgplgaaDoor.PAluExact
