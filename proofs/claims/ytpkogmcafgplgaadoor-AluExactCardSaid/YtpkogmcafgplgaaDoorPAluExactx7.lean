-- written by a program of this session (printx) out of the print of the given program
import Derived.Test.YtpkogmcafgplgaaDoorPAluExactx0
import Derived.Test.YtpkogmcafgplgaaDoorPAluExactx1
namespace Go.Proofs.YtpkogmcafgplgaaDoor.PAluExact
open Go.RowKit Go.Proofs.YtpkogmcafgplgaaDoorW.PrintWords Go.Proofs.YtpkogmcafgplgaaDoorW.PrintLast Go.Proofs.YtpkogmcafgplgaaDoorW.PrintMore
attribute [local go_sem] max2_int min2_int max_two min_two max_three min_three max_four min_four   -- for this text's walks alone
set_option linter.unusedVariables false
set_option linter.unusedSimpArgs false

/-! ### arcaderef1_put: function 39 -/
def arcaderef1_put.j0 : Nat → Int → Int → Bool → Bool → Option (Int)
  | 0, _, _, _, _ => none
  | k + 1, x0, x1, x2, x13 => if x13 = true then (some x1) else ((arcaderef1_bits.f k (wrap64 (x1)) 8).bind fun t511 => (if 0 ≤ x0 then (if x0 < (t511.length : Int) then ((arcaderef1_number.f k (t511.set (x0 : Int).toNat x2)).bind fun t515 => (some ((t515) % 256))) else (none)) else (none)))
def arcaderef1_put.f (k : Nat) (a0 : Int) (a1 : Int) (a2 : Bool) : Option (Int) := if a0 < 0 then (arcaderef1_put.j0 k a0 a1 a2 true) else (arcaderef1_put.j0 k a0 a1 a2 (decide (a0 > 7)))
theorem arcaderef1_put.mono_l : ∀ k, (∀ y0 y1 y2 y3, LeO (arcaderef1_put.j0 k y0 y1 y2 y3) (arcaderef1_put.j0 (k + 1) y0 y1 y2 y3))
  | 0 => fun _ _ _ _ r h => by simp [arcaderef1_put.j0] at h
  | k + 1 => by
    have ih0 := arcaderef1_put.mono_l k
    · intro y0 y1 y2 y3
      unfold arcaderef1_put.j0
      repeat' first
      | (with_reducible exact ih0 _ _ _ _)
      | (with_reducible exact arcaderef1_bits.mono _ _ _)
      | (with_reducible exact arcaderef1_number.mono _ _)
      | (with_reducible exact LeO.refl _)
      | (with_reducible exact LeO.none _)
      | (with_reducible refine LeO.ite ?_ ?_)
      | (with_reducible refine LeO.bind ?_ (fun _ => ?_))
      | exact ih0 _ _ _ _
      | exact arcaderef1_bits.mono _ _ _
      | exact arcaderef1_number.mono _ _
      | exact LeO.none _
      | refine LeO.ite ?_ ?_
      | refine LeO.bind ?_ (fun _ => ?_)
theorem arcaderef1_put.mono : ∀ a0 a1 a2 k, LeO (arcaderef1_put.f k a0 a1 a2) (arcaderef1_put.f (k + 1) a0 a1 a2) := by
  intro a0 a1 a2 k
  have ih0 := arcaderef1_put.mono_l k
  unfold arcaderef1_put.f
  repeat' first
      | (with_reducible exact ih0 _ _ _ _)
      | (with_reducible exact arcaderef1_bits.mono _ _ _)
      | (with_reducible exact arcaderef1_number.mono _ _)
      | (with_reducible exact LeO.refl _)
      | (with_reducible exact LeO.none _)
      | (with_reducible refine LeO.ite ?_ ?_)
      | (with_reducible refine LeO.bind ?_ (fun _ => ?_))
      | exact ih0 _ _ _ _
      | exact arcaderef1_bits.mono _ _ _
      | exact arcaderef1_number.mono _ _
      | exact LeO.none _
      | refine LeO.ite ?_ ?_
      | refine LeO.bind ?_ (fun _ => ?_)
set_option maxHeartbeats 8000000 in
set_option maxRecDepth 100000 in
theorem arcaderef1_put.calls (k : Nat) (a0 : Int) (a1 : Int) (a2 : Bool) (r : Int) (w : World) (h : arcaderef1_put.f k a0 a1 a2 = some r) :
    Calls Tryd.prog 39 #[.int .i64 a0, .int .u8 a1, .bool a2] w fun e w' => e = .returned (.int .u8 r) ∧ Below w.heap.size w w' := by
  have HB := Aside0.mk (Below.refl w.heap.size w)
  have H : (if a0 < 0 then (arcaderef1_put.j0 k a0 a1 a2 true) else (arcaderef1_put.j0 k a0 a1 a2 (decide (a0 > 7)))) = some r := h
  clear h
  have HC4 := Aside0.mk H
  clear H
  go_enter Tryd.func39, Tryd.ntmps39
  go_upto_region 1 with (fail)
  go_cut [13] (fun v13 wc => ∃ (kq : Nat) (x13_3 : Bool), v13 = .bool x13_3 ∧ Aside0 (arcaderef1_put.j0 kq a0 a1 a2 x13_3 = some r) ∧ Aside0 (kq ≤ k) ∧ Aside0 (Below w.heap.size w wc))
  case first =>
    have H := HC4.out
    clear HC4
    by_cases c5 : a0 < 0
    · rw [if_pos c5] at H
      have c5b0 : decide (a0 < 0) = true := decide_eq_true c5
      clear c5
      (first | rw [c5b0] | (simp only [i64_w, i32_w]; rw [c5b0]) | skip)
      have H' := Aside0.mk H
      clear H
      go_wp2
      go_meet
      case rel => exact ⟨_, (true), (by first | rfl | (simp; done) | (simp [*]; done)), H', ⟨by first | omega | exact Nat.le_refl _⟩, ⟨by repeat (first | (with_reducible first | exact HB.out | apply below_alloc | apply pw_below_drewN | apply below_drew1) | exact HB.out)⟩⟩
    · rw [if_neg c5] at H
      have c5b0 : decide (a0 < 0) = false := decide_eq_false c5
      clear c5
      (first | rw [c5b0] | (simp only [i64_w, i32_w]; rw [c5b0]) | skip)
      have H' := Aside0.mk H
      clear H
      go_wp2
      go_meet
      case rel => exact ⟨_, (decide (a0 > 7)), (by first | rfl | (simp; done) | (simp [*]; done)), H', ⟨by first | omega | exact Nat.le_refl _⟩, ⟨by repeat (first | (with_reducible first | exact HB.out | apply below_alloc | apply pw_below_drewN | apply below_drew1) | exact HB.out)⟩⟩
  case rest =>
    clear HC4
    try clear p2
    try clear c3
    try clear c5
    try clear c5b0
    obtain ⟨kq, x13_3, rfl, HA, HJ3, HB⟩ := hcut
    cases kq with
    | zero => exact absurd HA.out (by simp [arcaderef1_put.j0])
    | succ kj3 =>
      have H := HA.out
      clear HA
      simp only [arcaderef1_put.j0] at H
      by_cases c6 : x13_3 = true
      · subst c6
        have H1 : (some a1) = some r := by rw [if_pos rfl] at H; exact H
        clear H
        have H := H1
        clear H1
        obtain rfl := Option.some.inj H
        go_wp2
        go_ret
        exact ⟨by first | rfl | (simp [errW_none, errW_some] <;> rfl) | (simp [*, errW_none, errW_some] <;> rfl), by repeat (first | (with_reducible first | exact HB.out | apply below_alloc | apply pw_below_drewN | apply below_drew1) | exact HB.out)⟩
      · replace c6 := Bool.eq_false_iff.mpr c6
        subst c6
        have H1 : ((arcaderef1_bits.f kj3 (wrap64 (a1)) 8).bind fun t511 => (if 0 ≤ a0 then (if a0 < (t511.length : Int) then ((arcaderef1_number.f kj3 (t511.set (a0 : Int).toNat a2)).bind fun t515 => (some ((t515) % 256))) else (none)) else (none))) = some r := by rw [if_neg (show ¬ (false = true) by decide)] at H; exact H
        clear H
        have H := H1
        clear H1
        replace H := Option.bind_eq_some_iff.mp H
        obtain ⟨t511, A70, H⟩ := H
        replace H : (if 0 ≤ a0 then (if a0 < (t511.length : Int) then ((arcaderef1_number.f kj3 (t511.set (a0 : Int).toNat a2)).bind fun t515 => (some ((t515) % 256))) else (none)) else (none)) = some r := H
        have A7 := Aside0.mk A70
        clear A70
        by_cases c8 : 0 ≤ a0
        · rw [if_pos c8] at H
          have c8b0 : decide (0 ≤ a0) = true := decide_eq_true c8
          clear c8
          by_cases c9 : a0 < (t511.length : Int)
          · rw [if_pos c9] at H
            have c9b0 : decide (a0 < (t511.length : Int)) = true := decide_eq_true c9
            clear c9
            obtain ⟨y514, hy514⟩ : ∃ y_ : List Bool, y_ = (t511.set (a0 : Int).toNat a2) := ⟨_, rfl⟩
            replace H : ((arcaderef1_number.f kj3 y514).bind fun t515 => (some ((t515) % 256))) = some r := by first | (rw [hy514]; with_reducible exact H) | (have H2_ := (Option.bind_some _ _).symm.trans H; rw [hy514]; with_reducible exact H2_) | (have H2_ := (Option.bind_some _ _).symm.trans H; with_reducible exact H2_) | with_reducible exact H | (rw [hy514]; exact H) | exact H
            have Ny514 := Aside0.mk hy514
            clear hy514
            replace H := Option.bind_eq_some_iff.mp H
            obtain ⟨t515, A110, H⟩ := H
            replace H : (some ((t515) % 256)) = some r := H
            have A11 := Aside0.mk A110
            clear A110
            obtain rfl := Option.some.inj H
            go_wp2_with (first | ((with_reducible refine gate_callee (f := 29) rfl ?_); refine goesL_ (some 17) rfl rfl Tryd.func29 (by kernel_rfl) rfl #[.int .i64 (wrap64 (a1)), .int .i64 8] rfl (by (try simp only [List.map_toArray, List.map_cons, List.map_nil]); first | done | rfl | (simp only [List.length_drop, List.length_take]; rfl)) ?_; (with_reducible refine (arcaderef1_bits.calls kj3 (wrap64 (a1)) 8 t511 _ A7.out).mono ?_); rintro e w12 ⟨v512, rfl, ho0, hb⟩; refine ⟨_, rfl, ?_⟩; have n0_ := Aside0.mk (Kd.R_lower ho0 (below_size (by repeat (first | (with_reducible first | exact HB.out | apply below_alloc | apply pw_below_drewN | apply below_drew1) | exact HB.out)))); have n1_ := Aside0.mk (below_step (by repeat (first | (with_reducible first | exact HB.out | apply below_alloc | apply pw_below_drewN | apply below_drew1) | exact HB.out)) hb); clear HB; have HO513 := n0_; have HB := n1_; clear n0_ n1_; (try clear hb); (try clear hb2); (try clear hk); (try clear hi); (try clear ho0); have p10 : 0 ≤ (a0 : Int) := of_decide_eq_true (by first | (with_reducible assumption) | assumption); have q10 : (a0 : Int) < ((t511.length : Int) : Int) := of_decide_eq_true (by first | (with_reducible assumption) | assumption); obtain ⟨go10, co10, eo10, gb10, gl10, cl10, HG10⟩ := Kd.R_form HO513.out (by omega); (first | cases eo10 | (injection eo10 with ea_ en_ ec_; (first | subst ea_ | (injection ea_ with ea_; subst ea_)); subst ec_; clear en_)); have GB10 := Aside0.mk gb10; have GG10 := Aside0.mk HG10; clear gb10 gl10 HG10; obtain ⟨hx10_0, hf10_0⟩ := Kd.R_celln false HO513.out (a0 : Int) p10 q10; replace p10 := eq_true p10; replace q10 := eq_true q10; obtain ⟨hy13_, hz13_⟩ := Kd.R_celln false HO513.out (a0 : Int) (of_decide_eq_true (by first | (with_reducible assumption) | assumption)) (of_decide_eq_true (by first | (with_reducible assumption) | assumption)); have HP13 := Kd.R_putg HO513.out (a0 : Int) a2) | ((with_reducible refine gate_store (t := 4) (p := 21) rfl ?_); refine store_event (t := 4) (p := 21) (v := ?vo_w14) (w1 := (w12.setCell ⟨go10, (a0 : Int).toNat, none⟩ (.bool a2))) ?hg ?ho ?hn ?hr ?_; (case ho => rfl); (case hg => rfl); (case hn => rfl); (case hr => first | (go_simp; done) | (go_simp; rfl)); intro w14 hw; have hg : w12.grownBy w14 (some go10) := (by rw [hw]; exact HP13.2); have hp_ : Kd.R Kd.bool 4 w14 w.heap.size (fun _ => True) (.slice (some ⟨go10, 0, none⟩) t511.length co10) y514 := (by rw [hw, Ny514.out]; exact HP13.1); clear HP13; have n0_ := Aside0.mk (hp_); have n1_ := Aside0.mk ((by rw [hw]; exact below_set (HB.out) GB10.out : Below w.heap.size w w14)); clear HO513; clear HB; have HO513 := n0_; have HB := n1_; clear n0_ n1_; clear hg hw hp_) | ((with_reducible refine gate_callee (f := 32) rfl ?_); refine goesL_ (some 23) rfl rfl Tryd.func32 (by kernel_rfl) rfl #[.slice (some ⟨go10, 0, none⟩) y514.length co10] rfl (by (try simp only [List.map_toArray, List.map_cons, List.map_nil]); first | done | (rw [show y514.length = t511.length from (Kd.R_reads' HO513.out).1.symm] <;> rfl) | rfl | (simp only [List.length_drop, List.length_take]; rfl)) ?_; (with_reducible refine (arcaderef1_number.calls kj3 _ _ y514 t515 _ ?side1 ?side2 A11.out).mono ?_); (case side1 => repeat (first | exact (Kd.R_reads' HO513.out).2.2 | (with_reducible refine Kd.C_alloc ?_ _) | (with_reducible refine Kd.C_drewN ?_ _) | (with_reducible refine Kd.C_drew ?_))); (case side2 => rw [show y514.length = t511.length from (Kd.R_reads' HO513.out).1.symm]; exact (Kd.R_reads' HO513.out).2.1); rintro e w' ⟨rfl, ⟨nd, rfl⟩⟩; refine ⟨_, rfl, ?_⟩))
            go_ret
            exact ⟨by first | rfl | (simp [errW_none, errW_some] <;> rfl) | (simp [*, errW_none, errW_some] <;> rfl), by repeat (first | (with_reducible first | exact HB.out | apply below_alloc | apply pw_below_drewN | apply below_drew1) | exact HB.out)⟩
          · rw [if_neg c9] at H
            exact absurd H (by simp)
        · rw [if_neg c8] at H
          exact absurd H (by simp)

/-! ### arcaderef1_Res: function 22 -/
def arcaderef1_Res.f (k : Nat) (a0 : Int) (a1 : Int) : Option (Int) := (arcaderef1_put.f k a0 a1 false).bind fun t516 => (some t516)
theorem arcaderef1_Res.mono : ∀ a0 a1 k, LeO (arcaderef1_Res.f k a0 a1) (arcaderef1_Res.f (k + 1) a0 a1) := by
  intro a0 a1 k
  unfold arcaderef1_Res.f
  repeat' first
      | (with_reducible exact arcaderef1_put.mono _ _ _ _)
      | (with_reducible exact LeO.refl _)
      | (with_reducible exact LeO.none _)
      | (with_reducible refine LeO.ite ?_ ?_)
      | (with_reducible refine LeO.bind ?_ (fun _ => ?_))
      | exact arcaderef1_put.mono _ _ _ _
      | exact LeO.none _
      | refine LeO.ite ?_ ?_
      | refine LeO.bind ?_ (fun _ => ?_)
set_option maxHeartbeats 8000000 in
set_option maxRecDepth 100000 in
theorem arcaderef1_Res.calls (k : Nat) (a0 : Int) (a1 : Int) (r : Int) (w : World) (h : arcaderef1_Res.f k a0 a1 = some r) :
    Calls Tryd.prog 22 #[.int .i64 a0, .int .u8 a1] w fun e w' => e = .returned (.int .u8 r) ∧ Below w.heap.size w w' := by
  have HB := Aside0.mk (Below.refl w.heap.size w)
  have H : ((arcaderef1_put.f k a0 a1 false).bind fun t516 => (some t516)) = some r := h
  clear h
  replace H := Option.bind_eq_some_iff.mp H
  obtain ⟨t516, A30, H⟩ := H
  replace H : (some t516) = some r := H
  have A3 := Aside0.mk A30
  clear A30
  obtain rfl := Option.some.inj H
  go_enter Tryd.func22, Tryd.ntmps22
  go_wp2_with (first | ((with_reducible refine gate_callee (f := 39) rfl ?_); refine goesL_ (some 7) rfl rfl Tryd.func39 (by kernel_rfl) rfl #[.int .i64 a0, .int .u8 a1, .bool false] rfl (by (try simp only [List.map_toArray, List.map_cons, List.map_nil]); first | done | rfl | (simp only [List.length_drop, List.length_take]; rfl)) ?_; (with_reducible refine (arcaderef1_put.calls k a0 a1 false t516 _ A3.out).mono ?_); rintro e w4 ⟨rfl, hb⟩; refine ⟨_, rfl, ?_⟩; have n0_ := Aside0.mk (below_step (by repeat (first | (with_reducible first | exact HB.out | apply below_alloc | apply pw_below_drewN | apply below_drew1) | exact HB.out)) hb); clear HB; have HB := n0_; clear n0_; (try clear hb); (try clear hb2); (try clear hk); (try clear hi)))
  go_ret
  exact ⟨by first | rfl | (simp [errW_none, errW_some] <;> rfl) | (simp [*, errW_none, errW_some] <;> rfl), by repeat (first | (with_reducible first | exact HB.out | apply below_alloc | apply pw_below_drewN | apply below_drew1) | exact HB.out)⟩

/-! ### arcaderef1_Set: function 23 -/
def arcaderef1_Set.f (k : Nat) (a0 : Int) (a1 : Int) : Option (Int) := (arcaderef1_put.f k a0 a1 true).bind fun t517 => (some t517)
theorem arcaderef1_Set.mono : ∀ a0 a1 k, LeO (arcaderef1_Set.f k a0 a1) (arcaderef1_Set.f (k + 1) a0 a1) := by
  intro a0 a1 k
  unfold arcaderef1_Set.f
  repeat' first
      | (with_reducible exact arcaderef1_put.mono _ _ _ _)
      | (with_reducible exact LeO.refl _)
      | (with_reducible exact LeO.none _)
      | (with_reducible refine LeO.ite ?_ ?_)
      | (with_reducible refine LeO.bind ?_ (fun _ => ?_))
      | exact arcaderef1_put.mono _ _ _ _
      | exact LeO.none _
      | refine LeO.ite ?_ ?_
      | refine LeO.bind ?_ (fun _ => ?_)
set_option maxHeartbeats 8000000 in
set_option maxRecDepth 100000 in
theorem arcaderef1_Set.calls (k : Nat) (a0 : Int) (a1 : Int) (r : Int) (w : World) (h : arcaderef1_Set.f k a0 a1 = some r) :
    Calls Tryd.prog 23 #[.int .i64 a0, .int .u8 a1] w fun e w' => e = .returned (.int .u8 r) ∧ Below w.heap.size w w' := by
  have HB := Aside0.mk (Below.refl w.heap.size w)
  have H : ((arcaderef1_put.f k a0 a1 true).bind fun t517 => (some t517)) = some r := h
  clear h
  replace H := Option.bind_eq_some_iff.mp H
  obtain ⟨t517, A30, H⟩ := H
  replace H : (some t517) = some r := H
  have A3 := Aside0.mk A30
  clear A30
  obtain rfl := Option.some.inj H
  go_enter Tryd.func23, Tryd.ntmps23
  go_wp2_with (first | ((with_reducible refine gate_callee (f := 39) rfl ?_); refine goesL_ (some 7) rfl rfl Tryd.func39 (by kernel_rfl) rfl #[.int .i64 a0, .int .u8 a1, .bool true] rfl (by (try simp only [List.map_toArray, List.map_cons, List.map_nil]); first | done | rfl | (simp only [List.length_drop, List.length_take]; rfl)) ?_; (with_reducible refine (arcaderef1_put.calls k a0 a1 true t517 _ A3.out).mono ?_); rintro e w4 ⟨rfl, hb⟩; refine ⟨_, rfl, ?_⟩; have n0_ := Aside0.mk (below_step (by repeat (first | (with_reducible first | exact HB.out | apply below_alloc | apply pw_below_drewN | apply below_drew1) | exact HB.out)) hb); clear HB; have HB := n0_; clear n0_; (try clear hb); (try clear hb2); (try clear hk); (try clear hi)))
  go_ret
  exact ⟨by first | rfl | (simp [errW_none, errW_some] <;> rfl) | (simp [*, errW_none, errW_some] <;> rfl), by repeat (first | (with_reducible first | exact HB.out | apply below_alloc | apply pw_below_drewN | apply below_drew1) | exact HB.out)⟩


/-! ### alu_AddWord: function 24 -/
def alu_AddWord.f (a0 : Int) (a1 : Int) (a2 : Int) : Option (Int × Int) := if 0 ≤ a0 ∧ a0 ≤ 65535 ∧ 0 ≤ a1 ∧ a1 ≤ 65535 ∧ 0 ≤ a2 ∧ a2 ≤ 255 then some ((a0 + a1) % 65536, Go.Proofs.YtpkogmcafgplgaaDoor.AluA.flagsV (a2 / 128 == 1) false (decide (4095 < a0 % 4096 + a1 % 4096)) (decide (65535 < a0 + a1))) else none
theorem alu_AddWord.calls (a0 : Int) (a1 : Int) (a2 : Int) (r1 : Int) (r2 : Int) (w : World) (h : alu_AddWord.f a0 a1 a2 = some (r1, r2)) :
    Calls Tryd.prog 24 #[.int .u16 a0, .int .u16 a1, .int .u8 a2] w fun e w' => e = .returned (.tuple #[.int .u16 r1, .int .u8 r2]) ∧ Drawn0 w w' := by
  by_cases c : 0 ≤ a0 ∧ a0 ≤ 65535 ∧ 0 ≤ a1 ∧ a1 ≤ 65535 ∧ 0 ≤ a2 ∧ a2 ≤ 255
  · simp only [alu_AddWord.f, if_pos c] at h
    injection h with h
    injection h with h1 h2
    subst h1 h2
    obtain ⟨c0, d0, c1, d1, c2, d2⟩ := c
    refine (Go.Proofs.YtpkogmcafgplgaaDoor.AluC.addword_any a0 a1 a2 w c0 d0 c1 d1 c2 d2).mono ?_
    rintro e w' ⟨rfl, rfl⟩
    exact ⟨rfl, Drawn0.refl _⟩
  · simp only [alu_AddWord.f, if_neg c] at h
    cases h

/-! ### arcaderef1_AddWord: function 25 -/
def arcaderef1_AddWord.f (k : Nat) (a0 : Int) (a1 : Int) (a2 : Int) : Option (Int × Int) := (arcaderef1_bits.f k (wrap64 (a0)) 16).bind fun t518 => ((arcaderef1_bits.f k (wrap64 (a1)) 16).bind fun t521 => ((arcaderef1_both.f k t518 t521 false).bind fun bt524 => ((arcaderef1_has.f a2 128).bind fun t530 => ((arcaderef1_number.f k bt524.1).bind fun t531 => (if 11 < (bt524.2.length : Int) then (if 15 < (bt524.2.length : Int) then ((arcaderef1_flags.f k t530 false (rdOf false bt524.2 11) (rdOf false bt524.2 15)).bind fun t534 => (some (IntKind.u16.wrap (t531), t534))) else (none)) else (none))))))
theorem arcaderef1_AddWord.mono : ∀ a0 a1 a2 k, LeO (arcaderef1_AddWord.f k a0 a1 a2) (arcaderef1_AddWord.f (k + 1) a0 a1 a2) := by
  intro a0 a1 a2 k
  unfold arcaderef1_AddWord.f
  repeat' first
      | (with_reducible exact arcaderef1_bits.mono _ _ _)
      | (with_reducible exact arcaderef1_both.mono _ _ _ _)
      | (with_reducible exact arcaderef1_flags.mono _ _ _ _ _)
      | (with_reducible exact arcaderef1_number.mono _ _)
      | (with_reducible exact LeO.refl _)
      | (with_reducible exact LeO.none _)
      | (with_reducible refine LeO.ite ?_ ?_)
      | (with_reducible refine LeO.bind ?_ (fun _ => ?_))
      | exact arcaderef1_bits.mono _ _ _
      | exact arcaderef1_both.mono _ _ _ _
      | exact arcaderef1_flags.mono _ _ _ _ _
      | exact arcaderef1_number.mono _ _
      | exact LeO.none _
      | refine LeO.ite ?_ ?_
      | refine LeO.bind ?_ (fun _ => ?_)
set_option maxHeartbeats 8000000 in
set_option maxRecDepth 100000 in
theorem arcaderef1_AddWord.calls (k : Nat) (a0 : Int) (a1 : Int) (a2 : Int) (r1 : Int) (r2 : Int) (w : World) (h : arcaderef1_AddWord.f k a0 a1 a2 = some (r1, r2)) :
    Calls Tryd.prog 25 #[.int .u16 a0, .int .u16 a1, .int .u8 a2] w fun e w' => e = .returned (.tuple #[.int .u16 r1, .int .u8 r2]) ∧ Below w.heap.size w w' := by
  have HB := Aside0.mk (Below.refl w.heap.size w)
  have H : ((arcaderef1_bits.f k (wrap64 (a0)) 16).bind fun t518 => ((arcaderef1_bits.f k (wrap64 (a1)) 16).bind fun t521 => ((arcaderef1_both.f k t518 t521 false).bind fun bt524 => ((arcaderef1_has.f a2 128).bind fun t530 => ((arcaderef1_number.f k bt524.1).bind fun t531 => (if 11 < (bt524.2.length : Int) then (if 15 < (bt524.2.length : Int) then ((arcaderef1_flags.f k t530 false (rdOf false bt524.2 11) (rdOf false bt524.2 15)).bind fun t534 => (some (IntKind.u16.wrap (t531), t534))) else (none)) else (none))))))) = some (r1, r2) := h
  clear h
  replace H := Option.bind_eq_some_iff.mp H
  obtain ⟨t518, A40, H⟩ := H
  replace H : ((arcaderef1_bits.f k (wrap64 (a1)) 16).bind fun t521 => ((arcaderef1_both.f k t518 t521 false).bind fun bt524 => ((arcaderef1_has.f a2 128).bind fun t530 => ((arcaderef1_number.f k bt524.1).bind fun t531 => (if 11 < (bt524.2.length : Int) then (if 15 < (bt524.2.length : Int) then ((arcaderef1_flags.f k t530 false (rdOf false bt524.2 11) (rdOf false bt524.2 15)).bind fun t534 => (some (IntKind.u16.wrap (t531), t534))) else (none)) else (none)))))) = some (r1, r2) := H
  have A4 := Aside0.mk A40
  clear A40
  replace H := Option.bind_eq_some_iff.mp H
  obtain ⟨t521, A50, H⟩ := H
  replace H : ((arcaderef1_both.f k t518 t521 false).bind fun bt524 => ((arcaderef1_has.f a2 128).bind fun t530 => ((arcaderef1_number.f k bt524.1).bind fun t531 => (if 11 < (bt524.2.length : Int) then (if 15 < (bt524.2.length : Int) then ((arcaderef1_flags.f k t530 false (rdOf false bt524.2 11) (rdOf false bt524.2 15)).bind fun t534 => (some (IntKind.u16.wrap (t531), t534))) else (none)) else (none))))) = some (r1, r2) := H
  have A5 := Aside0.mk A50
  clear A50
  replace H := Option.bind_eq_some_iff.mp H
  obtain ⟨⟨t524, t525⟩, A60, H⟩ := H
  replace H : ((arcaderef1_has.f a2 128).bind fun t530 => ((arcaderef1_number.f k t524).bind fun t531 => (if 11 < (t525.length : Int) then (if 15 < (t525.length : Int) then ((arcaderef1_flags.f k t530 false (rdOf false t525 11) (rdOf false t525 15)).bind fun t534 => (some (IntKind.u16.wrap (t531), t534))) else (none)) else (none)))) = some (r1, r2) := H
  have A6 := Aside0.mk A60
  clear A60
  replace H := Option.bind_eq_some_iff.mp H
  obtain ⟨t530, A70, H⟩ := H
  replace H : ((arcaderef1_number.f k t524).bind fun t531 => (if 11 < (t525.length : Int) then (if 15 < (t525.length : Int) then ((arcaderef1_flags.f k t530 false (rdOf false t525 11) (rdOf false t525 15)).bind fun t534 => (some (IntKind.u16.wrap (t531), t534))) else (none)) else (none))) = some (r1, r2) := H
  have A7 := Aside0.mk A70
  clear A70
  replace H := Option.bind_eq_some_iff.mp H
  obtain ⟨t531, A80, H⟩ := H
  replace H : (if 11 < (t525.length : Int) then (if 15 < (t525.length : Int) then ((arcaderef1_flags.f k t530 false (rdOf false t525 11) (rdOf false t525 15)).bind fun t534 => (some (IntKind.u16.wrap (t531), t534))) else (none)) else (none)) = some (r1, r2) := H
  have A8 := Aside0.mk A80
  clear A80
  by_cases c9 : 11 < (t525.length : Int)
  · rw [if_pos c9] at H
    have c9b0 : decide (11 < (t525.length : Int)) = true := decide_eq_true c9
    have c9b1 : decide (11 < t525.length) = true := decide_eq_true (by omega)
    clear c9
    by_cases c10 : 15 < (t525.length : Int)
    · rw [if_pos c10] at H
      have c10b0 : decide (15 < (t525.length : Int)) = true := decide_eq_true c10
      have c10b1 : decide (15 < t525.length) = true := decide_eq_true (by omega)
      clear c10
      replace H := Option.bind_eq_some_iff.mp H
      obtain ⟨t534, A110, H⟩ := H
      replace H : (some (IntKind.u16.wrap (t531), t534)) = some (r1, r2) := H
      have A11 := Aside0.mk A110
      clear A110
      simp only [Option.some.injEq, Prod.mk.injEq] at H
      obtain ⟨rfl, rfl⟩ := H
      go_enter Tryd.func25, Tryd.ntmps25
      go_wp2_with (first | (go_at_call 29; (with_reducible refine (arcaderef1_bits.calls k (wrap64 (a0)) 16 t518 _ A4.out).mono ?_); rintro e w12 ⟨v519, rfl, ho0, hb⟩; have n0_ := Aside0.mk (Kd.R_lower ho0 (below_size (by repeat (first | (with_reducible first | exact HB.out | apply below_alloc | apply pw_below_drewN | apply below_drew1) | exact HB.out)))); have n1_ := Aside0.mk (below_step (by repeat (first | (with_reducible first | exact HB.out | apply below_alloc | apply pw_below_drewN | apply below_drew1) | exact HB.out)) hb); clear HB; have HO520 := n0_; have HB := n1_; clear n0_ n1_; (try clear hb); (try clear hb2); (try clear hk); (try clear hi); (try clear ho0)) | (go_at_call 29; (with_reducible refine (arcaderef1_bits.calls k (wrap64 (a1)) 16 t521 _ A5.out).mono ?_); rintro e w13 ⟨v522, rfl, ho0, hb⟩; have n0_ := Aside0.mk (Kd.R_elder' (by (with_reducible repeat (first | apply Kd.R_alloc | apply Kd.R_drewN | apply Kd.R_drew)); exact HO520.out) (Kd.R_base ho0) hb); have n1_ := Aside0.mk (Kd.R_lower (Kd.R_new' ho0 (Kd.R_lt (by (with_reducible repeat (first | apply Kd.R_alloc | apply Kd.R_drewN | apply Kd.R_drew)); exact HO520.out))) (below_size (by repeat (first | (with_reducible first | exact HB.out | apply below_alloc | apply pw_below_drewN | apply below_drew1) | exact HB.out)))); have n2_ := Aside0.mk (below_step (by repeat (first | (with_reducible first | exact HB.out | apply below_alloc | apply pw_below_drewN | apply below_drew1) | exact HB.out)) hb); clear HO520; clear HB; have HO520 := n0_; have HO523 := n1_; have HB := n2_; clear n0_ n1_ n2_; (try clear hb); (try clear hb2); (try clear hk); (try clear hi); (try clear ho0); obtain ⟨Ao14, co14, eo14⟩ := Kd.R_slice HO520.out; subst eo14; obtain ⟨Ao15, co15, eo15⟩ := Kd.R_slice HO523.out; subst eo15) | (go_at_call 31; (with_reducible refine (arcaderef1_both.calls k _ _ t518 _ _ t521 false t524 t525 _ ?side1 ?side2 ?side3 ?side4 A6.out).mono ?_); (case side1 => repeat (first | exact (Kd.R_reads' HO520.out).2.2 | (with_reducible refine Kd.C_alloc ?_ _) | (with_reducible refine Kd.C_drewN ?_ _) | (with_reducible refine Kd.C_drew ?_))); (case side2 => exact (Kd.R_reads' HO520.out).2.1); (case side3 => repeat (first | exact (Kd.R_reads' HO523.out).2.2 | (with_reducible refine Kd.C_alloc ?_ _) | (with_reducible refine Kd.C_drewN ?_ _) | (with_reducible refine Kd.C_drew ?_))); (case side4 => exact (Kd.R_reads' HO523.out).2.1); rintro e w16 ⟨v526, v528, rfl, ho0, ho1, hb⟩; have n0_ := Aside0.mk (Kd.R_mono (Kd.R_told (Kd.R_told (Kd.R_old (by (with_reducible repeat (first | apply Kd.R_alloc | apply Kd.R_drewN | apply Kd.R_drew)); exact HO520.out) hb) (Kd.R_base ho0)) (Kd.R_base ho1)) (fun _ h_ => h_.1)); have n1_ := Aside0.mk (Kd.R_mono (Kd.R_told (Kd.R_told (Kd.R_old (by (with_reducible repeat (first | apply Kd.R_alloc | apply Kd.R_drewN | apply Kd.R_drew)); exact HO523.out) hb) (Kd.R_base ho0)) (Kd.R_base ho1)) (fun _ h_ => h_.1)); have n2_ := Aside0.mk (Kd.R_lower (Kd.R_new' (Kd.R_new' ho0 (Kd.R_lt (by (with_reducible repeat (first | apply Kd.R_alloc | apply Kd.R_drewN | apply Kd.R_drew)); exact HO520.out))) (Kd.R_lt (by (with_reducible repeat (first | apply Kd.R_alloc | apply Kd.R_drewN | apply Kd.R_drew)); exact HO523.out))) (below_size (by repeat (first | (with_reducible first | exact HB.out | apply below_alloc | apply pw_below_drewN | apply below_drew1) | exact HB.out)))); have n3_ := Aside0.mk (Kd.R_lower (Kd.R_new' (Kd.R_new' ho1 (Kd.R_lt (by (with_reducible repeat (first | apply Kd.R_alloc | apply Kd.R_drewN | apply Kd.R_drew)); exact HO520.out))) (Kd.R_lt (by (with_reducible repeat (first | apply Kd.R_alloc | apply Kd.R_drewN | apply Kd.R_drew)); exact HO523.out))) (below_size (by repeat (first | (with_reducible first | exact HB.out | apply below_alloc | apply pw_below_drewN | apply below_drew1) | exact HB.out)))); have n4_ := Aside0.mk (below_step (by repeat (first | (with_reducible first | exact HB.out | apply below_alloc | apply pw_below_drewN | apply below_drew1) | exact HB.out)) hb); clear HO520; clear HO523; clear HB; have HO520 := n0_; have HO523 := n1_; have HO527 := n2_; have HO529 := n3_; have HB := n4_; clear n0_ n1_ n2_ n3_ n4_; (try clear hb); (try clear hb2); (try clear hk); (try clear hi); (try clear ho0); (try clear ho1)) | (go_at_call 30; (with_reducible refine (arcaderef1_has.calls a2 128 t530 _ A7.out).mono ?_); rintro e w' ⟨rfl, ⟨nd, rfl⟩⟩; (try first | exact ⟨rfl, _, World.drewN_drewN _ _ _⟩ | exact ⟨rfl, _, Eq.trans (World.drewN_drewN _ _ _) (congrArg (World.drewN _) (Nat.add_assoc _ _ _))⟩); obtain ⟨Ao17, co17, eo17⟩ := Kd.R_slice HO527.out; subst eo17) | (go_at_call 32; (with_reducible refine (arcaderef1_number.calls k _ _ t524 t531 _ ?side1 ?side2 A8.out).mono ?_); (case side1 => repeat (first | exact (Kd.R_reads' HO527.out).2.2 | (with_reducible refine Kd.C_alloc ?_ _) | (with_reducible refine Kd.C_drewN ?_ _) | (with_reducible refine Kd.C_drew ?_))); (case side2 => exact (Kd.R_reads' HO527.out).2.1); rintro e w' ⟨rfl, ⟨nd, rfl⟩⟩; (try first | exact ⟨rfl, _, World.drewN_drewN _ _ _⟩ | exact ⟨rfl, _, Eq.trans (World.drewN_drewN _ _ _) (congrArg (World.drewN _) (Nat.add_assoc _ _ _))⟩); obtain ⟨Ao18, co18, eo18⟩ := Kd.R_slice HO529.out; subst eo18; have p532 : 0 ≤ (11 : Int) := (by omega); have q532 : 11 < (t525.length : Int) := of_decide_eq_true (by first | (with_reducible assumption) | assumption); obtain ⟨ad532, e532, hx532_0⟩ := Kd.at_bool (Kd.R_reads' HO529.out).2.2 11 p532 q532; cases e532; (try simp only [show (11 : Int).toNat = 11 from rfl, Nat.reduceMul, Nat.reduceEqDiff, Go.Addr.add, ↓reduceIte] at hx532_0); have qi532 : (11 < t525.length) = True := eq_true (by omega); (try rw [show ((11 : Int)).toNat = 11 from rfl] at hx532_0); replace p532 := eq_true p532; replace q532 := eq_true q532; have p533 : 0 ≤ (15 : Int) := (by omega); have q533 : 15 < (t525.length : Int) := of_decide_eq_true (by first | (with_reducible assumption) | assumption); obtain ⟨ad533, e533, hx533_0⟩ := Kd.at_bool (Kd.R_reads' HO529.out).2.2 15 p533 q533; obtain rfl : ad532 = ad533 := (by injection e533); (try simp only [show (15 : Int).toNat = 15 from rfl, Nat.reduceMul, Nat.reduceEqDiff, Go.Addr.add, ↓reduceIte] at hx533_0); have qi533 : (15 < t525.length) = True := eq_true (by omega); (try rw [show ((15 : Int)).toNat = 15 from rfl] at hx533_0); replace p533 := eq_true p533; replace q533 := eq_true q533) | (go_at_call 33; (with_reducible refine (arcaderef1_flags.calls k t530 false (rdOf false t525 11) (rdOf false t525 15) t534 _ A11.out).mono ?_); rintro e w' ⟨rfl, ⟨nd, rfl⟩⟩; (try first | exact ⟨rfl, _, World.drewN_drewN _ _ _⟩ | exact ⟨rfl, _, Eq.trans (World.drewN_drewN _ _ _) (congrArg (World.drewN _) (Nat.add_assoc _ _ _))⟩)))
      repeat (go_quiet (first | (go_at_call 29; (with_reducible refine (arcaderef1_bits.calls k (wrap64 (a0)) 16 t518 _ A4.out).mono ?_); rintro e w12 ⟨v519, rfl, ho0, hb⟩; have n0_ := Aside0.mk (Kd.R_lower ho0 (below_size (by repeat (first | (with_reducible first | exact HB.out | apply below_alloc | apply pw_below_drewN | apply below_drew1) | exact HB.out)))); have n1_ := Aside0.mk (below_step (by repeat (first | (with_reducible first | exact HB.out | apply below_alloc | apply pw_below_drewN | apply below_drew1) | exact HB.out)) hb); clear HB; have HO520 := n0_; have HB := n1_; clear n0_ n1_; (try clear hb); (try clear hb2); (try clear hk); (try clear hi); (try clear ho0)) | (go_at_call 29; (with_reducible refine (arcaderef1_bits.calls k (wrap64 (a1)) 16 t521 _ A5.out).mono ?_); rintro e w13 ⟨v522, rfl, ho0, hb⟩; have n0_ := Aside0.mk (Kd.R_elder' (by (with_reducible repeat (first | apply Kd.R_alloc | apply Kd.R_drewN | apply Kd.R_drew)); exact HO520.out) (Kd.R_base ho0) hb); have n1_ := Aside0.mk (Kd.R_lower (Kd.R_new' ho0 (Kd.R_lt (by (with_reducible repeat (first | apply Kd.R_alloc | apply Kd.R_drewN | apply Kd.R_drew)); exact HO520.out))) (below_size (by repeat (first | (with_reducible first | exact HB.out | apply below_alloc | apply pw_below_drewN | apply below_drew1) | exact HB.out)))); have n2_ := Aside0.mk (below_step (by repeat (first | (with_reducible first | exact HB.out | apply below_alloc | apply pw_below_drewN | apply below_drew1) | exact HB.out)) hb); clear HO520; clear HB; have HO520 := n0_; have HO523 := n1_; have HB := n2_; clear n0_ n1_ n2_; (try clear hb); (try clear hb2); (try clear hk); (try clear hi); (try clear ho0); obtain ⟨Ao14, co14, eo14⟩ := Kd.R_slice HO520.out; subst eo14; obtain ⟨Ao15, co15, eo15⟩ := Kd.R_slice HO523.out; subst eo15) | (go_at_call 31; (with_reducible refine (arcaderef1_both.calls k _ _ t518 _ _ t521 false t524 t525 _ ?side1 ?side2 ?side3 ?side4 A6.out).mono ?_); (case side1 => repeat (first | exact (Kd.R_reads' HO520.out).2.2 | (with_reducible refine Kd.C_alloc ?_ _) | (with_reducible refine Kd.C_drewN ?_ _) | (with_reducible refine Kd.C_drew ?_))); (case side2 => exact (Kd.R_reads' HO520.out).2.1); (case side3 => repeat (first | exact (Kd.R_reads' HO523.out).2.2 | (with_reducible refine Kd.C_alloc ?_ _) | (with_reducible refine Kd.C_drewN ?_ _) | (with_reducible refine Kd.C_drew ?_))); (case side4 => exact (Kd.R_reads' HO523.out).2.1); rintro e w16 ⟨v526, v528, rfl, ho0, ho1, hb⟩; have n0_ := Aside0.mk (Kd.R_mono (Kd.R_told (Kd.R_told (Kd.R_old (by (with_reducible repeat (first | apply Kd.R_alloc | apply Kd.R_drewN | apply Kd.R_drew)); exact HO520.out) hb) (Kd.R_base ho0)) (Kd.R_base ho1)) (fun _ h_ => h_.1)); have n1_ := Aside0.mk (Kd.R_mono (Kd.R_told (Kd.R_told (Kd.R_old (by (with_reducible repeat (first | apply Kd.R_alloc | apply Kd.R_drewN | apply Kd.R_drew)); exact HO523.out) hb) (Kd.R_base ho0)) (Kd.R_base ho1)) (fun _ h_ => h_.1)); have n2_ := Aside0.mk (Kd.R_lower (Kd.R_new' (Kd.R_new' ho0 (Kd.R_lt (by (with_reducible repeat (first | apply Kd.R_alloc | apply Kd.R_drewN | apply Kd.R_drew)); exact HO520.out))) (Kd.R_lt (by (with_reducible repeat (first | apply Kd.R_alloc | apply Kd.R_drewN | apply Kd.R_drew)); exact HO523.out))) (below_size (by repeat (first | (with_reducible first | exact HB.out | apply below_alloc | apply pw_below_drewN | apply below_drew1) | exact HB.out)))); have n3_ := Aside0.mk (Kd.R_lower (Kd.R_new' (Kd.R_new' ho1 (Kd.R_lt (by (with_reducible repeat (first | apply Kd.R_alloc | apply Kd.R_drewN | apply Kd.R_drew)); exact HO520.out))) (Kd.R_lt (by (with_reducible repeat (first | apply Kd.R_alloc | apply Kd.R_drewN | apply Kd.R_drew)); exact HO523.out))) (below_size (by repeat (first | (with_reducible first | exact HB.out | apply below_alloc | apply pw_below_drewN | apply below_drew1) | exact HB.out)))); have n4_ := Aside0.mk (below_step (by repeat (first | (with_reducible first | exact HB.out | apply below_alloc | apply pw_below_drewN | apply below_drew1) | exact HB.out)) hb); clear HO520; clear HO523; clear HB; have HO520 := n0_; have HO523 := n1_; have HO527 := n2_; have HO529 := n3_; have HB := n4_; clear n0_ n1_ n2_ n3_ n4_; (try clear hb); (try clear hb2); (try clear hk); (try clear hi); (try clear ho0); (try clear ho1)) | (go_at_call 30; (with_reducible refine (arcaderef1_has.calls a2 128 t530 _ A7.out).mono ?_); rintro e w' ⟨rfl, ⟨nd, rfl⟩⟩; (try first | exact ⟨rfl, _, World.drewN_drewN _ _ _⟩ | exact ⟨rfl, _, Eq.trans (World.drewN_drewN _ _ _) (congrArg (World.drewN _) (Nat.add_assoc _ _ _))⟩); obtain ⟨Ao17, co17, eo17⟩ := Kd.R_slice HO527.out; subst eo17) | (go_at_call 32; (with_reducible refine (arcaderef1_number.calls k _ _ t524 t531 _ ?side1 ?side2 A8.out).mono ?_); (case side1 => repeat (first | exact (Kd.R_reads' HO527.out).2.2 | (with_reducible refine Kd.C_alloc ?_ _) | (with_reducible refine Kd.C_drewN ?_ _) | (with_reducible refine Kd.C_drew ?_))); (case side2 => exact (Kd.R_reads' HO527.out).2.1); rintro e w' ⟨rfl, ⟨nd, rfl⟩⟩; (try first | exact ⟨rfl, _, World.drewN_drewN _ _ _⟩ | exact ⟨rfl, _, Eq.trans (World.drewN_drewN _ _ _) (congrArg (World.drewN _) (Nat.add_assoc _ _ _))⟩); obtain ⟨Ao18, co18, eo18⟩ := Kd.R_slice HO529.out; subst eo18; have p532 : 0 ≤ (11 : Int) := (by omega); have q532 : 11 < (t525.length : Int) := of_decide_eq_true (by first | (with_reducible assumption) | assumption); obtain ⟨ad532, e532, hx532_0⟩ := Kd.at_bool (Kd.R_reads' HO529.out).2.2 11 p532 q532; cases e532; (try simp only [show (11 : Int).toNat = 11 from rfl, Nat.reduceMul, Nat.reduceEqDiff, Go.Addr.add, ↓reduceIte] at hx532_0); have qi532 : (11 < t525.length) = True := eq_true (by omega); (try rw [show ((11 : Int)).toNat = 11 from rfl] at hx532_0); replace p532 := eq_true p532; replace q532 := eq_true q532; have p533 : 0 ≤ (15 : Int) := (by omega); have q533 : 15 < (t525.length : Int) := of_decide_eq_true (by first | (with_reducible assumption) | assumption); obtain ⟨ad533, e533, hx533_0⟩ := Kd.at_bool (Kd.R_reads' HO529.out).2.2 15 p533 q533; obtain rfl : ad532 = ad533 := (by injection e533); (try simp only [show (15 : Int).toNat = 15 from rfl, Nat.reduceMul, Nat.reduceEqDiff, Go.Addr.add, ↓reduceIte] at hx533_0); have qi533 : (15 < t525.length) = True := eq_true (by omega); (try rw [show ((15 : Int)).toNat = 15 from rfl] at hx533_0); replace p533 := eq_true p533; replace q533 := eq_true q533) | (go_at_call 33; (with_reducible refine (arcaderef1_flags.calls k t530 false (rdOf false t525 11) (rdOf false t525 15) t534 _ A11.out).mono ?_); rintro e w' ⟨rfl, ⟨nd, rfl⟩⟩; (try first | exact ⟨rfl, _, World.drewN_drewN _ _ _⟩ | exact ⟨rfl, _, Eq.trans (World.drewN_drewN _ _ _) (congrArg (World.drewN _) (Nat.add_assoc _ _ _))⟩))); try go_wp2_with (first | (go_at_call 29; (with_reducible refine (arcaderef1_bits.calls k (wrap64 (a0)) 16 t518 _ A4.out).mono ?_); rintro e w12 ⟨v519, rfl, ho0, hb⟩; have n0_ := Aside0.mk (Kd.R_lower ho0 (below_size (by repeat (first | (with_reducible first | exact HB.out | apply below_alloc | apply pw_below_drewN | apply below_drew1) | exact HB.out)))); have n1_ := Aside0.mk (below_step (by repeat (first | (with_reducible first | exact HB.out | apply below_alloc | apply pw_below_drewN | apply below_drew1) | exact HB.out)) hb); clear HB; have HO520 := n0_; have HB := n1_; clear n0_ n1_; (try clear hb); (try clear hb2); (try clear hk); (try clear hi); (try clear ho0)) | (go_at_call 29; (with_reducible refine (arcaderef1_bits.calls k (wrap64 (a1)) 16 t521 _ A5.out).mono ?_); rintro e w13 ⟨v522, rfl, ho0, hb⟩; have n0_ := Aside0.mk (Kd.R_elder' (by (with_reducible repeat (first | apply Kd.R_alloc | apply Kd.R_drewN | apply Kd.R_drew)); exact HO520.out) (Kd.R_base ho0) hb); have n1_ := Aside0.mk (Kd.R_lower (Kd.R_new' ho0 (Kd.R_lt (by (with_reducible repeat (first | apply Kd.R_alloc | apply Kd.R_drewN | apply Kd.R_drew)); exact HO520.out))) (below_size (by repeat (first | (with_reducible first | exact HB.out | apply below_alloc | apply pw_below_drewN | apply below_drew1) | exact HB.out)))); have n2_ := Aside0.mk (below_step (by repeat (first | (with_reducible first | exact HB.out | apply below_alloc | apply pw_below_drewN | apply below_drew1) | exact HB.out)) hb); clear HO520; clear HB; have HO520 := n0_; have HO523 := n1_; have HB := n2_; clear n0_ n1_ n2_; (try clear hb); (try clear hb2); (try clear hk); (try clear hi); (try clear ho0); obtain ⟨Ao14, co14, eo14⟩ := Kd.R_slice HO520.out; subst eo14; obtain ⟨Ao15, co15, eo15⟩ := Kd.R_slice HO523.out; subst eo15) | (go_at_call 31; (with_reducible refine (arcaderef1_both.calls k _ _ t518 _ _ t521 false t524 t525 _ ?side1 ?side2 ?side3 ?side4 A6.out).mono ?_); (case side1 => repeat (first | exact (Kd.R_reads' HO520.out).2.2 | (with_reducible refine Kd.C_alloc ?_ _) | (with_reducible refine Kd.C_drewN ?_ _) | (with_reducible refine Kd.C_drew ?_))); (case side2 => exact (Kd.R_reads' HO520.out).2.1); (case side3 => repeat (first | exact (Kd.R_reads' HO523.out).2.2 | (with_reducible refine Kd.C_alloc ?_ _) | (with_reducible refine Kd.C_drewN ?_ _) | (with_reducible refine Kd.C_drew ?_))); (case side4 => exact (Kd.R_reads' HO523.out).2.1); rintro e w16 ⟨v526, v528, rfl, ho0, ho1, hb⟩; have n0_ := Aside0.mk (Kd.R_mono (Kd.R_told (Kd.R_told (Kd.R_old (by (with_reducible repeat (first | apply Kd.R_alloc | apply Kd.R_drewN | apply Kd.R_drew)); exact HO520.out) hb) (Kd.R_base ho0)) (Kd.R_base ho1)) (fun _ h_ => h_.1)); have n1_ := Aside0.mk (Kd.R_mono (Kd.R_told (Kd.R_told (Kd.R_old (by (with_reducible repeat (first | apply Kd.R_alloc | apply Kd.R_drewN | apply Kd.R_drew)); exact HO523.out) hb) (Kd.R_base ho0)) (Kd.R_base ho1)) (fun _ h_ => h_.1)); have n2_ := Aside0.mk (Kd.R_lower (Kd.R_new' (Kd.R_new' ho0 (Kd.R_lt (by (with_reducible repeat (first | apply Kd.R_alloc | apply Kd.R_drewN | apply Kd.R_drew)); exact HO520.out))) (Kd.R_lt (by (with_reducible repeat (first | apply Kd.R_alloc | apply Kd.R_drewN | apply Kd.R_drew)); exact HO523.out))) (below_size (by repeat (first | (with_reducible first | exact HB.out | apply below_alloc | apply pw_below_drewN | apply below_drew1) | exact HB.out)))); have n3_ := Aside0.mk (Kd.R_lower (Kd.R_new' (Kd.R_new' ho1 (Kd.R_lt (by (with_reducible repeat (first | apply Kd.R_alloc | apply Kd.R_drewN | apply Kd.R_drew)); exact HO520.out))) (Kd.R_lt (by (with_reducible repeat (first | apply Kd.R_alloc | apply Kd.R_drewN | apply Kd.R_drew)); exact HO523.out))) (below_size (by repeat (first | (with_reducible first | exact HB.out | apply below_alloc | apply pw_below_drewN | apply below_drew1) | exact HB.out)))); have n4_ := Aside0.mk (below_step (by repeat (first | (with_reducible first | exact HB.out | apply below_alloc | apply pw_below_drewN | apply below_drew1) | exact HB.out)) hb); clear HO520; clear HO523; clear HB; have HO520 := n0_; have HO523 := n1_; have HO527 := n2_; have HO529 := n3_; have HB := n4_; clear n0_ n1_ n2_ n3_ n4_; (try clear hb); (try clear hb2); (try clear hk); (try clear hi); (try clear ho0); (try clear ho1)) | (go_at_call 30; (with_reducible refine (arcaderef1_has.calls a2 128 t530 _ A7.out).mono ?_); rintro e w' ⟨rfl, ⟨nd, rfl⟩⟩; (try first | exact ⟨rfl, _, World.drewN_drewN _ _ _⟩ | exact ⟨rfl, _, Eq.trans (World.drewN_drewN _ _ _) (congrArg (World.drewN _) (Nat.add_assoc _ _ _))⟩); obtain ⟨Ao17, co17, eo17⟩ := Kd.R_slice HO527.out; subst eo17) | (go_at_call 32; (with_reducible refine (arcaderef1_number.calls k _ _ t524 t531 _ ?side1 ?side2 A8.out).mono ?_); (case side1 => repeat (first | exact (Kd.R_reads' HO527.out).2.2 | (with_reducible refine Kd.C_alloc ?_ _) | (with_reducible refine Kd.C_drewN ?_ _) | (with_reducible refine Kd.C_drew ?_))); (case side2 => exact (Kd.R_reads' HO527.out).2.1); rintro e w' ⟨rfl, ⟨nd, rfl⟩⟩; (try first | exact ⟨rfl, _, World.drewN_drewN _ _ _⟩ | exact ⟨rfl, _, Eq.trans (World.drewN_drewN _ _ _) (congrArg (World.drewN _) (Nat.add_assoc _ _ _))⟩); obtain ⟨Ao18, co18, eo18⟩ := Kd.R_slice HO529.out; subst eo18; have p532 : 0 ≤ (11 : Int) := (by omega); have q532 : 11 < (t525.length : Int) := of_decide_eq_true (by first | (with_reducible assumption) | assumption); obtain ⟨ad532, e532, hx532_0⟩ := Kd.at_bool (Kd.R_reads' HO529.out).2.2 11 p532 q532; cases e532; (try simp only [show (11 : Int).toNat = 11 from rfl, Nat.reduceMul, Nat.reduceEqDiff, Go.Addr.add, ↓reduceIte] at hx532_0); have qi532 : (11 < t525.length) = True := eq_true (by omega); (try rw [show ((11 : Int)).toNat = 11 from rfl] at hx532_0); replace p532 := eq_true p532; replace q532 := eq_true q532; have p533 : 0 ≤ (15 : Int) := (by omega); have q533 : 15 < (t525.length : Int) := of_decide_eq_true (by first | (with_reducible assumption) | assumption); obtain ⟨ad533, e533, hx533_0⟩ := Kd.at_bool (Kd.R_reads' HO529.out).2.2 15 p533 q533; obtain rfl : ad532 = ad533 := (by injection e533); (try simp only [show (15 : Int).toNat = 15 from rfl, Nat.reduceMul, Nat.reduceEqDiff, Go.Addr.add, ↓reduceIte] at hx533_0); have qi533 : (15 < t525.length) = True := eq_true (by omega); (try rw [show ((15 : Int)).toNat = 15 from rfl] at hx533_0); replace p533 := eq_true p533; replace q533 := eq_true q533) | (go_at_call 33; (with_reducible refine (arcaderef1_flags.calls k t530 false (rdOf false t525 11) (rdOf false t525 15) t534 _ A11.out).mono ?_); rintro e w' ⟨rfl, ⟨nd, rfl⟩⟩; (try first | exact ⟨rfl, _, World.drewN_drewN _ _ _⟩ | exact ⟨rfl, _, Eq.trans (World.drewN_drewN _ _ _) (congrArg (World.drewN _) (Nat.add_assoc _ _ _))⟩))))
      go_ret2
      exact ⟨by first | rfl | (simp [errW_none, errW_some] <;> rfl) | (simp [*, errW_none, errW_some] <;> rfl), by repeat (first | (with_reducible first | exact HB.out | apply below_alloc | apply pw_below_drewN | apply below_drew1) | exact HB.out)⟩
    · rw [if_neg c10] at H
      exact absurd H (by simp)
  · rw [if_neg c9] at H
    exact absurd H (by simp)


/-! ### alu_AddOffset: function 26 -/
def alu_AddOffset.f (a0 : Int) (a1 : Int) : Option (Int × Int) := if 0 ≤ a0 ∧ a0 ≤ 65535 ∧ 0 ≤ a1 ∧ a1 ≤ 255 then some ((a0 + a1 - a1 / 128 * 256) % 65536, Go.Proofs.YtpkogmcafgplgaaDoor.AluA.flagsV false false (decide (15 < a0 % 16 + a1 % 16)) (decide (255 < a0 % 256 + a1))) else none
theorem alu_AddOffset.calls (a0 : Int) (a1 : Int) (r1 : Int) (r2 : Int) (w : World) (h : alu_AddOffset.f a0 a1 = some (r1, r2)) :
    Calls Tryd.prog 26 #[.int .u16 a0, .int .u8 a1] w fun e w' => e = .returned (.tuple #[.int .u16 r1, .int .u8 r2]) ∧ Drawn0 w w' := by
  by_cases c : 0 ≤ a0 ∧ a0 ≤ 65535 ∧ 0 ≤ a1 ∧ a1 ≤ 255
  · simp only [alu_AddOffset.f, if_pos c] at h
    injection h with h
    injection h with h1 h2
    subst h1 h2
    obtain ⟨c0, d0, c1, d1⟩ := c
    refine (Go.Proofs.YtpkogmcafgplgaaDoor.AluC.addoff_any a0 a1 w c0 d0 c1 d1).mono ?_
    rintro e w' ⟨rfl, rfl⟩
    exact ⟨rfl, Drawn0.refl _⟩
  · simp only [alu_AddOffset.f, if_neg c] at h
    cases h

end Go.Proofs.YtpkogmcafgplgaaDoor.PAluExact
