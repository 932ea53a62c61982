import Derived.Deep.Slices
import Derived.Deep.Fields
import Derived.ChangeSame
import Derived.Lib.DecodeN
import Derived.Test.YtpflenaoplblkaaGAe
import Derived.Test.YtpflenaoplblkaaGAf
section
namespace Go.Proofs.Ytpflenaoplblkaa.PProtoAll
open Go.RowKit YtpflenaoplblkaaW.PrintWords YtpflenaoplblkaaW.PrintLast YtpflenaoplblkaaW.PrintMore
attribute [local go_sem] max2_int min2_int max_two min_two max_three min_three max_four min_four   -- for this text's walks alone
set_option linter.unusedVariables false
set_option linter.unusedSimpArgs false
def arcaderef12_isName.l0 : Nat → ByteArray → Int → Option (Bool)
 | 0, _, _ => none
 | k + 1, x0, x3 => if x3 < (x0.size : Int) then (if 0 ≤ x3 then (if (bt x0 x3) < 97 then (if (bt x0 x3) < 48 then (if (bt x0 x3) = 45 then (arcaderef12_isName.l0 k x0 (wrap64 (x3 + 1))) else (if (bt x0 x3) = 95 then (arcaderef12_isName.l0 k x0 (wrap64 (x3 + 1))) else (some false))) else (if (bt x0 x3) > 57 then (if (bt x0 x3) = 45 then (arcaderef12_isName.l0 k x0 (wrap64 (x3 + 1))) else (if (bt x0 x3) = 95 then (arcaderef12_isName.l0 k x0 (wrap64 (x3 + 1))) else (some false))) else (arcaderef12_isName.l0 k x0 (wrap64 (x3 + 1))))) else (if (bt x0 x3) > 122 then (if (bt x0 x3) < 48 then (if (bt x0 x3) = 45 then (arcaderef12_isName.l0 k x0 (wrap64 (x3 + 1))) else (if (bt x0 x3) = 95 then (arcaderef12_isName.l0 k x0 (wrap64 (x3 + 1))) else (some false))) else (if (bt x0 x3) > 57 then (if (bt x0 x3) = 45 then (arcaderef12_isName.l0 k x0 (wrap64 (x3 + 1))) else (if (bt x0 x3) = 95 then (arcaderef12_isName.l0 k x0 (wrap64 (x3 + 1))) else (some false))) else (arcaderef12_isName.l0 k x0 (wrap64 (x3 + 1))))) else (arcaderef12_isName.l0 k x0 (wrap64 (x3 + 1))))) else (none)) else (some true)
def arcaderef12_isName.f (k : Nat) (a0 : ByteArray) : Option (Bool) := arcaderef12_isName.l0 k a0 0
set_option maxHeartbeats 8000000 in
set_option maxRecDepth 100000 in
theorem arcaderef12_isName.calls (k : Nat) (a0 : ByteArray) (r : Bool) (w : World) (h : arcaderef12_isName.f k a0 = some r) :
  Calls Try.prog 88 #[.string a0] w fun e w' => e = .returned (.bool r) ∧ Drawn0 w w' := by
 have H : (arcaderef12_isName.l0 k a0 0) = some r := h
 clear h
 have H' := Aside0.mk H
 clear H
 go_enter Try.func88, Try.ntmps88
 go_wp2
 go_loopg [3] k (fun kq v3 w' => ∃ (x3_1 : Int), v3 = .int .i64 x3_1 ∧ Aside0 (arcaderef12_isName.l0 kq a0 x3_1 = some r) ∧ Aside0 (kq ≤ k) ∧ Drawn0 w w')
 case atStart => exact ⟨(0), (by first | rfl | (simp; done) | (simp [*]; done)), H', ⟨Nat.le_refl _⟩, by repeat (first | exact Drawn0.refl _ | apply Drawn0.step)⟩
 case round =>
  clear H'
  obtain ⟨x3_1, rfl, HA, HK1, ⟨m1, rfl⟩⟩ := hrel
  cases gk with
  | zero => exact absurd HA.out (by simp [arcaderef12_isName.l0])
  | succ k1 =>
   have H := HA.out
   clear HA
   simp only [arcaderef12_isName.l0] at H
   by_cases c2 : x3_1 < (a0.size : Int)
   ·
    rw [if_pos c2] at H
    have c2b0 : decide (x3_1 < (a0.size : Int)) = true := decide_eq_true c2
    clear c2
    by_cases c3 : 0 ≤ x3_1
    ·
     rw [if_pos c3] at H
     have c3b0 : decide (0 ≤ x3_1) = true := decide_eq_true c3
     clear c3
     by_cases c5 : (bt a0 x3_1) < 97
     ·
      rw [if_pos c5] at H
      have c5b0 : decide ((bt a0 x3_1) < 97) = true := decide_eq_true c5
      clear c5
      by_cases c6 : (bt a0 x3_1) < 48
      ·
       rw [if_pos c6] at H
       have c6b0 : decide ((bt a0 x3_1) < 48) = true := decide_eq_true c6
       clear c6
       by_cases c7 : (bt a0 x3_1) = 45
       ·
        rw [if_pos c7] at H
        have c7b0 : ((bt a0 x3_1) == 45) = true := beq_iff_eq.mpr c7
        have c7b1 : ((bt a0 x3_1) != 45) = false := bne_eq_false_iff_eq.mpr c7
        clear c7
        have H' := Aside0.mk H
        clear H
        have p4 : 0 ≤ (x3_1 : Int) := of_decide_eq_true (by first | (with_reducible assumption) | assumption)
        have q4 : x3_1 < (a0.size : Int) := of_decide_eq_true (by first | (with_reducible assumption) | assumption)
        have hx4 := bt_at a0 x3_1
        replace p4 := eq_true p4
        replace q4 := eq_true q4
        go_wp2
        go_roundg k1
        case measure => have := HK1.out; omega
        case rel => exact ⟨(wrap64 (x3_1 + 1)), (by first | rfl | (simp; done) | (simp [*]; done)), H', ⟨by have := HK1.out; omega⟩, by repeat (first | exact Drawn0.refl _ | apply Drawn0.step)⟩
       ·
        rw [if_neg c7] at H
        have c7b0 : ((bt a0 x3_1) == 45) = false := beq_eq_false_iff_ne.mpr c7
        have c7b1 : ((bt a0 x3_1) != 45) = true := bne_iff_ne.mpr c7
        by_cases c8 : (bt a0 x3_1) = 95
        ·
         rw [if_pos c8] at H
         have c8b0 : ((bt a0 x3_1) == 95) = true := beq_iff_eq.mpr c8
         have c8b1 : ((bt a0 x3_1) != 95) = false := bne_eq_false_iff_eq.mpr c8
         clear c8
         have H' := Aside0.mk H
         clear H
         have p4 : 0 ≤ (x3_1 : Int) := of_decide_eq_true (by first | (with_reducible assumption) | assumption)
         have q4 : x3_1 < (a0.size : Int) := of_decide_eq_true (by first | (with_reducible assumption) | assumption)
         have hx4 := bt_at a0 x3_1
         replace p4 := eq_true p4
         replace q4 := eq_true q4
         go_wp2
         go_roundg k1
         case measure => have := HK1.out; omega
         case rel => exact ⟨(wrap64 (x3_1 + 1)), (by first | rfl | (simp; done) | (simp [*]; done)), H', ⟨by have := HK1.out; omega⟩, by repeat (first | exact Drawn0.refl _ | apply Drawn0.step)⟩
        ·
         rw [if_neg c8] at H
         have c8b0 : ((bt a0 x3_1) == 95) = false := beq_eq_false_iff_ne.mpr c8
         have c8b1 : ((bt a0 x3_1) != 95) = true := bne_iff_ne.mpr c8
         obtain rfl := Option.some.inj H
         have p4 : 0 ≤ (x3_1 : Int) := of_decide_eq_true (by first | (with_reducible assumption) | assumption)
         have q4 : x3_1 < (a0.size : Int) := of_decide_eq_true (by first | (with_reducible assumption) | assumption)
         have hx4 := bt_at a0 x3_1
         replace p4 := eq_true p4
         replace q4 := eq_true q4
         go_wp2
         go_ret
         exact ⟨by first | rfl | (simp; done) | (simp [*]; done), by repeat (first | exact Drawn0.refl _ | apply Drawn0.step)⟩
      ·
       rw [if_neg c6] at H
       have c6b0 : decide ((bt a0 x3_1) < 48) = false := decide_eq_false c6
       clear c6
       by_cases c9 : (bt a0 x3_1) > 57
       ·
        rw [if_pos c9] at H
        have c9b0 : decide (57 < (bt a0 x3_1)) = true := decide_eq_true c9
        clear c9
        by_cases c10 : (bt a0 x3_1) = 45
        ·
         rw [if_pos c10] at H
         have c10b0 : ((bt a0 x3_1) == 45) = true := beq_iff_eq.mpr c10
         have c10b1 : ((bt a0 x3_1) != 45) = false := bne_eq_false_iff_eq.mpr c10
         clear c10
         have H' := Aside0.mk H
         clear H
         have p4 : 0 ≤ (x3_1 : Int) := of_decide_eq_true (by first | (with_reducible assumption) | assumption)
         have q4 : x3_1 < (a0.size : Int) := of_decide_eq_true (by first | (with_reducible assumption) | assumption)
         have hx4 := bt_at a0 x3_1
         replace p4 := eq_true p4
         replace q4 := eq_true q4
         go_wp2
         go_roundg k1
         case measure => have := HK1.out; omega
         case rel => exact ⟨(wrap64 (x3_1 + 1)), (by first | rfl | (simp; done) | (simp [*]; done)), H', ⟨by have := HK1.out; omega⟩, by repeat (first | exact Drawn0.refl _ | apply Drawn0.step)⟩
        ·
         rw [if_neg c10] at H
         have c10b0 : ((bt a0 x3_1) == 45) = false := beq_eq_false_iff_ne.mpr c10
         have c10b1 : ((bt a0 x3_1) != 45) = true := bne_iff_ne.mpr c10
         by_cases c11 : (bt a0 x3_1) = 95
         ·
          rw [if_pos c11] at H
          have c11b0 : ((bt a0 x3_1) == 95) = true := beq_iff_eq.mpr c11
          have c11b1 : ((bt a0 x3_1) != 95) = false := bne_eq_false_iff_eq.mpr c11
          clear c11
          have H' := Aside0.mk H
          clear H
          have p4 : 0 ≤ (x3_1 : Int) := of_decide_eq_true (by first | (with_reducible assumption) | assumption)
          have q4 : x3_1 < (a0.size : Int) := of_decide_eq_true (by first | (with_reducible assumption) | assumption)
          have hx4 := bt_at a0 x3_1
          replace p4 := eq_true p4
          replace q4 := eq_true q4
          go_wp2
          go_roundg k1
          case measure => have := HK1.out; omega
          case rel => exact ⟨(wrap64 (x3_1 + 1)), (by first | rfl | (simp; done) | (simp [*]; done)), H', ⟨by have := HK1.out; omega⟩, by repeat (first | exact Drawn0.refl _ | apply Drawn0.step)⟩
         ·
          rw [if_neg c11] at H
          have c11b0 : ((bt a0 x3_1) == 95) = false := beq_eq_false_iff_ne.mpr c11
          have c11b1 : ((bt a0 x3_1) != 95) = true := bne_iff_ne.mpr c11
          obtain rfl := Option.some.inj H
          have p4 : 0 ≤ (x3_1 : Int) := of_decide_eq_true (by first | (with_reducible assumption) | assumption)
          have q4 : x3_1 < (a0.size : Int) := of_decide_eq_true (by first | (with_reducible assumption) | assumption)
          have hx4 := bt_at a0 x3_1
          replace p4 := eq_true p4
          replace q4 := eq_true q4
          go_wp2
          go_ret
          exact ⟨by first | rfl | (simp; done) | (simp [*]; done), by repeat (first | exact Drawn0.refl _ | apply Drawn0.step)⟩
       ·
        rw [if_neg c9] at H
        have c9b0 : decide (57 < (bt a0 x3_1)) = false := decide_eq_false c9
        clear c9
        have H' := Aside0.mk H
        clear H
        have p4 : 0 ≤ (x3_1 : Int) := of_decide_eq_true (by first | (with_reducible assumption) | assumption)
        have q4 : x3_1 < (a0.size : Int) := of_decide_eq_true (by first | (with_reducible assumption) | assumption)
        have hx4 := bt_at a0 x3_1
        replace p4 := eq_true p4
        replace q4 := eq_true q4
        go_wp2
        go_roundg k1
        case measure => have := HK1.out; omega
        case rel => exact ⟨(wrap64 (x3_1 + 1)), (by first | rfl | (simp; done) | (simp [*]; done)), H', ⟨by have := HK1.out; omega⟩, by repeat (first | exact Drawn0.refl _ | apply Drawn0.step)⟩
     ·
      rw [if_neg c5] at H
      have c5b0 : decide ((bt a0 x3_1) < 97) = false := decide_eq_false c5
      clear c5
      by_cases c12 : (bt a0 x3_1) > 122
      ·
       rw [if_pos c12] at H
       have c12b0 : decide (122 < (bt a0 x3_1)) = true := decide_eq_true c12
       clear c12
       by_cases c13 : (bt a0 x3_1) < 48
       ·
        rw [if_pos c13] at H
        have c13b0 : decide ((bt a0 x3_1) < 48) = true := decide_eq_true c13
        clear c13
        by_cases c14 : (bt a0 x3_1) = 45
        ·
         rw [if_pos c14] at H
         have c14b0 : ((bt a0 x3_1) == 45) = true := beq_iff_eq.mpr c14
         have c14b1 : ((bt a0 x3_1) != 45) = false := bne_eq_false_iff_eq.mpr c14
         clear c14
         have H' := Aside0.mk H
         clear H
         have p4 : 0 ≤ (x3_1 : Int) := of_decide_eq_true (by first | (with_reducible assumption) | assumption)
         have q4 : x3_1 < (a0.size : Int) := of_decide_eq_true (by first | (with_reducible assumption) | assumption)
         have hx4 := bt_at a0 x3_1
         replace p4 := eq_true p4
         replace q4 := eq_true q4
         go_wp2
         go_roundg k1
         case measure => have := HK1.out; omega
         case rel => exact ⟨(wrap64 (x3_1 + 1)), (by first | rfl | (simp; done) | (simp [*]; done)), H', ⟨by have := HK1.out; omega⟩, by repeat (first | exact Drawn0.refl _ | apply Drawn0.step)⟩
        ·
         rw [if_neg c14] at H
         have c14b0 : ((bt a0 x3_1) == 45) = false := beq_eq_false_iff_ne.mpr c14
         have c14b1 : ((bt a0 x3_1) != 45) = true := bne_iff_ne.mpr c14
         by_cases c15 : (bt a0 x3_1) = 95
         ·
          rw [if_pos c15] at H
          have c15b0 : ((bt a0 x3_1) == 95) = true := beq_iff_eq.mpr c15
          have c15b1 : ((bt a0 x3_1) != 95) = false := bne_eq_false_iff_eq.mpr c15
          clear c15
          have H' := Aside0.mk H
          clear H
          have p4 : 0 ≤ (x3_1 : Int) := of_decide_eq_true (by first | (with_reducible assumption) | assumption)
          have q4 : x3_1 < (a0.size : Int) := of_decide_eq_true (by first | (with_reducible assumption) | assumption)
          have hx4 := bt_at a0 x3_1
          replace p4 := eq_true p4
          replace q4 := eq_true q4
          go_wp2
          go_roundg k1
          case measure => have := HK1.out; omega
          case rel => exact ⟨(wrap64 (x3_1 + 1)), (by first | rfl | (simp; done) | (simp [*]; done)), H', ⟨by have := HK1.out; omega⟩, by repeat (first | exact Drawn0.refl _ | apply Drawn0.step)⟩
         ·
          rw [if_neg c15] at H
          have c15b0 : ((bt a0 x3_1) == 95) = false := beq_eq_false_iff_ne.mpr c15
          have c15b1 : ((bt a0 x3_1) != 95) = true := bne_iff_ne.mpr c15
          obtain rfl := Option.some.inj H
          have p4 : 0 ≤ (x3_1 : Int) := of_decide_eq_true (by first | (with_reducible assumption) | assumption)
          have q4 : x3_1 < (a0.size : Int) := of_decide_eq_true (by first | (with_reducible assumption) | assumption)
          have hx4 := bt_at a0 x3_1
          replace p4 := eq_true p4
          replace q4 := eq_true q4
          go_wp2
          go_ret
          exact ⟨by first | rfl | (simp; done) | (simp [*]; done), by repeat (first | exact Drawn0.refl _ | apply Drawn0.step)⟩
       ·
        rw [if_neg c13] at H
        have c13b0 : decide ((bt a0 x3_1) < 48) = false := decide_eq_false c13
        clear c13
        by_cases c16 : (bt a0 x3_1) > 57
        ·
         rw [if_pos c16] at H
         have c16b0 : decide (57 < (bt a0 x3_1)) = true := decide_eq_true c16
         clear c16
         by_cases c17 : (bt a0 x3_1) = 45
         ·
          rw [if_pos c17] at H
          have c17b0 : ((bt a0 x3_1) == 45) = true := beq_iff_eq.mpr c17
          have c17b1 : ((bt a0 x3_1) != 45) = false := bne_eq_false_iff_eq.mpr c17
          clear c17
          have H' := Aside0.mk H
          clear H
          have p4 : 0 ≤ (x3_1 : Int) := of_decide_eq_true (by first | (with_reducible assumption) | assumption)
          have q4 : x3_1 < (a0.size : Int) := of_decide_eq_true (by first | (with_reducible assumption) | assumption)
          have hx4 := bt_at a0 x3_1
          replace p4 := eq_true p4
          replace q4 := eq_true q4
          go_wp2
          go_roundg k1
          case measure => have := HK1.out; omega
          case rel => exact ⟨(wrap64 (x3_1 + 1)), (by first | rfl | (simp; done) | (simp [*]; done)), H', ⟨by have := HK1.out; omega⟩, by repeat (first | exact Drawn0.refl _ | apply Drawn0.step)⟩
         ·
          rw [if_neg c17] at H
          have c17b0 : ((bt a0 x3_1) == 45) = false := beq_eq_false_iff_ne.mpr c17
          have c17b1 : ((bt a0 x3_1) != 45) = true := bne_iff_ne.mpr c17
          by_cases c18 : (bt a0 x3_1) = 95
          ·
           rw [if_pos c18] at H
           have c18b0 : ((bt a0 x3_1) == 95) = true := beq_iff_eq.mpr c18
           have c18b1 : ((bt a0 x3_1) != 95) = false := bne_eq_false_iff_eq.mpr c18
           clear c18
           have H' := Aside0.mk H
           clear H
           have p4 : 0 ≤ (x3_1 : Int) := of_decide_eq_true (by first | (with_reducible assumption) | assumption)
           have q4 : x3_1 < (a0.size : Int) := of_decide_eq_true (by first | (with_reducible assumption) | assumption)
           have hx4 := bt_at a0 x3_1
           replace p4 := eq_true p4
           replace q4 := eq_true q4
           go_wp2
           go_roundg k1
           case measure => have := HK1.out; omega
           case rel => exact ⟨(wrap64 (x3_1 + 1)), (by first | rfl | (simp; done) | (simp [*]; done)), H', ⟨by have := HK1.out; omega⟩, by repeat (first | exact Drawn0.refl _ | apply Drawn0.step)⟩
          ·
           rw [if_neg c18] at H
           have c18b0 : ((bt a0 x3_1) == 95) = false := beq_eq_false_iff_ne.mpr c18
           have c18b1 : ((bt a0 x3_1) != 95) = true := bne_iff_ne.mpr c18
           obtain rfl := Option.some.inj H
           have p4 : 0 ≤ (x3_1 : Int) := of_decide_eq_true (by first | (with_reducible assumption) | assumption)
           have q4 : x3_1 < (a0.size : Int) := of_decide_eq_true (by first | (with_reducible assumption) | assumption)
           have hx4 := bt_at a0 x3_1
           replace p4 := eq_true p4
           replace q4 := eq_true q4
           go_wp2
           go_ret
           exact ⟨by first | rfl | (simp; done) | (simp [*]; done), by repeat (first | exact Drawn0.refl _ | apply Drawn0.step)⟩
        ·
         rw [if_neg c16] at H
         have c16b0 : decide (57 < (bt a0 x3_1)) = false := decide_eq_false c16
         clear c16
         have H' := Aside0.mk H
         clear H
         have p4 : 0 ≤ (x3_1 : Int) := of_decide_eq_true (by first | (with_reducible assumption) | assumption)
         have q4 : x3_1 < (a0.size : Int) := of_decide_eq_true (by first | (with_reducible assumption) | assumption)
         have hx4 := bt_at a0 x3_1
         replace p4 := eq_true p4
         replace q4 := eq_true q4
         go_wp2
         go_roundg k1
         case measure => have := HK1.out; omega
         case rel => exact ⟨(wrap64 (x3_1 + 1)), (by first | rfl | (simp; done) | (simp [*]; done)), H', ⟨by have := HK1.out; omega⟩, by repeat (first | exact Drawn0.refl _ | apply Drawn0.step)⟩
      ·
       rw [if_neg c12] at H
       have c12b0 : decide (122 < (bt a0 x3_1)) = false := decide_eq_false c12
       clear c12
       have H' := Aside0.mk H
       clear H
       have p4 : 0 ≤ (x3_1 : Int) := of_decide_eq_true (by first | (with_reducible assumption) | assumption)
       have q4 : x3_1 < (a0.size : Int) := of_decide_eq_true (by first | (with_reducible assumption) | assumption)
       have hx4 := bt_at a0 x3_1
       replace p4 := eq_true p4
       replace q4 := eq_true q4
       go_wp2
       go_roundg k1
       case measure => have := HK1.out; omega
       case rel => exact ⟨(wrap64 (x3_1 + 1)), (by first | rfl | (simp; done) | (simp [*]; done)), H', ⟨by have := HK1.out; omega⟩, by repeat (first | exact Drawn0.refl _ | apply Drawn0.step)⟩
    ·
     rw [if_neg c3] at H
     exact absurd H (by simp)
   ·
    rw [if_neg c2] at H
    have c2b0 : decide (x3_1 < (a0.size : Int)) = false := decide_eq_false c2
    clear c2
    obtain rfl := Option.some.inj H
    go_wp2
    go_ret
    exact ⟨by first | rfl | (simp; done) | (simp [*]; done), by repeat (first | exact Drawn0.refl _ | apply Drawn0.step)⟩
def arcaderef12_Part_size.f (a0_0 : Int) (a0_1 : Int) (a0_2 : Int) (a0_3 : Int) : Option (Int) := if a0_0 = 119 then (some 2) else (if a0_0 = 108 then (some 4) else (if a0_0 = 100 then (some 4) else (some 1)))
set_option maxHeartbeats 8000000 in
set_option maxRecDepth 100000 in
theorem arcaderef12_Part_size.calls (a0_0 : Int) (a0_1 : Int) (a0_2 : Int) (a0_3 : Int) (r : Int) (w : World) (h : arcaderef12_Part_size.f a0_0 a0_1 a0_2 a0_3 = some r) :
  Calls Try.prog 89 #[.agg #[.int .u8 a0_0, .int .u8 a0_1, .int .i64 a0_2, .int .i64 a0_3]] w fun e w' => e = .returned (.int .i64 r) ∧ Below w.heap.size w w' := by
 have hu129 := Try.underlying129
 have HB := Aside0.mk (Below.refl w.heap.size w)
 have H : (if a0_0 = 119 then (some 2) else (if a0_0 = 108 then (some 4) else (if a0_0 = 100 then (some 4) else (some 1)))) = some r := h
 clear h
 by_cases c2 : a0_0 = 119
 ·
  rw [if_pos c2] at H
  have c2b0 : (a0_0 == 119) = true := beq_iff_eq.mpr c2
  have c2b1 : (a0_0 != 119) = false := bne_eq_false_iff_eq.mpr c2
  clear c2
  obtain rfl := Option.some.inj H
  go_enter Try.func89, Try.ntmps89
  go_wp2_with (first | ((with_reducible refine gate_dst (N := 1) rfl ?_); refine box_event ?hg (N := 1) ?hd (cs := #[.int .u8 a0_0, .int .u8 a0_1, .int .i64 a0_2, .int .i64 a0_3]) (t := 129) ?hr ?_; (case hd => rfl); (case hg => rfl); (case hr => first | (go_simp; done) | (go_simp; rfl)); intro gb141 hg w3 hbox hb; have n0_ := Aside0.mk (below_step (by repeat (first | (with_reducible first | exact HB.out | apply below_alloc | apply pw_below_drewN | apply below_drew1) | exact HB.out)) hb); have n1_ := Aside0.mk (hbox); have n2_ := Aside0.mk ((by rw [hg]; exact (below_size (by repeat (first | (with_reducible first | exact HB.out | apply below_alloc | apply pw_below_drewN | apply below_drew1) | exact HB.out))) : w.heap.size ≤ gb141)); have n3_ := Aside0.mk ((by rw [hg]; exact (below_size (by repeat (first | (with_reducible first | exact HB.out | apply below_alloc | apply pw_below_drewN | apply below_drew1) | exact HB.out))) : w.heap.size ≤ gb141)); clear HB; have HB := n0_; have BK141 := n1_; have GW141 := n2_; have GE141 := n3_; clear n0_ n1_ n2_ n3_; clear hb hbox hg; have hcz4_0 : w3.cell? ⟨gb141, 0, none⟩ = some (.int .u8 a0_0) := (blk_cell BK141.out 0).trans rfl; have hcz4_1 : w3.cell? ⟨gb141, 1, none⟩ = some (.int .u8 a0_1) := (blk_cell BK141.out 1).trans rfl; have hcz4_2 : w3.cell? ⟨gb141, 2, none⟩ = some (.int .i64 a0_2) := (blk_cell BK141.out 2).trans rfl; have hcz4_3 : w3.cell? ⟨gb141, 3, none⟩ = some (.int .i64 a0_3) := (blk_cell BK141.out 3).trans rfl; have hfz4_0 := blk_frozen BK141.out 0; have hfz4_1 := blk_frozen BK141.out 1; have hfz4_2 := blk_frozen BK141.out 2; have hfz4_3 := blk_frozen BK141.out 3))
  go_ret
  exact ⟨by first | rfl | (simp [errW_none, errW_some] <;> rfl) | (simp [*, errW_none, errW_some] <;> rfl), by repeat (first | (with_reducible first | exact HB.out | apply below_alloc | apply pw_below_drewN | apply below_drew1 | refine below_set ?_ GE141.out) | exact HB.out)⟩
 ·
  rw [if_neg c2] at H
  have c2b0 : (a0_0 == 119) = false := beq_eq_false_iff_ne.mpr c2
  have c2b1 : (a0_0 != 119) = true := bne_iff_ne.mpr c2
  by_cases c5 : a0_0 = 108
  ·
   rw [if_pos c5] at H
   have c5b0 : (a0_0 == 108) = true := beq_iff_eq.mpr c5
   have c5b1 : (a0_0 != 108) = false := bne_eq_false_iff_eq.mpr c5
   clear c5
   obtain rfl := Option.some.inj H
   go_enter Try.func89, Try.ntmps89
   go_wp2_with (first | ((with_reducible refine gate_dst (N := 1) rfl ?_); refine box_event ?hg (N := 1) ?hd (cs := #[.int .u8 a0_0, .int .u8 a0_1, .int .i64 a0_2, .int .i64 a0_3]) (t := 129) ?hr ?_; (case hd => rfl); (case hg => rfl); (case hr => first | (go_simp; done) | (go_simp; rfl)); intro gb141 hg w6 hbox hb; have n0_ := Aside0.mk (below_step (by repeat (first | (with_reducible first | exact HB.out | apply below_alloc | apply pw_below_drewN | apply below_drew1) | exact HB.out)) hb); have n1_ := Aside0.mk (hbox); have n2_ := Aside0.mk ((by rw [hg]; exact (below_size (by repeat (first | (with_reducible first | exact HB.out | apply below_alloc | apply pw_below_drewN | apply below_drew1) | exact HB.out))) : w.heap.size ≤ gb141)); have n3_ := Aside0.mk ((by rw [hg]; exact (below_size (by repeat (first | (with_reducible first | exact HB.out | apply below_alloc | apply pw_below_drewN | apply below_drew1) | exact HB.out))) : w.heap.size ≤ gb141)); clear HB; have HB := n0_; have BK141 := n1_; have GW141 := n2_; have GE141 := n3_; clear n0_ n1_ n2_ n3_; clear hb hbox hg; have hcz7_0 : w6.cell? ⟨gb141, 0, none⟩ = some (.int .u8 a0_0) := (blk_cell BK141.out 0).trans rfl; have hcz7_1 : w6.cell? ⟨gb141, 1, none⟩ = some (.int .u8 a0_1) := (blk_cell BK141.out 1).trans rfl; have hcz7_2 : w6.cell? ⟨gb141, 2, none⟩ = some (.int .i64 a0_2) := (blk_cell BK141.out 2).trans rfl; have hcz7_3 : w6.cell? ⟨gb141, 3, none⟩ = some (.int .i64 a0_3) := (blk_cell BK141.out 3).trans rfl; have hfz7_0 := blk_frozen BK141.out 0; have hfz7_1 := blk_frozen BK141.out 1; have hfz7_2 := blk_frozen BK141.out 2; have hfz7_3 := blk_frozen BK141.out 3))
   go_ret
   exact ⟨by first | rfl | (simp [errW_none, errW_some] <;> rfl) | (simp [*, errW_none, errW_some] <;> rfl), by repeat (first | (with_reducible first | exact HB.out | apply below_alloc | apply pw_below_drewN | apply below_drew1 | refine below_set ?_ GE141.out) | exact HB.out)⟩
  ·
   rw [if_neg c5] at H
   have c5b0 : (a0_0 == 108) = false := beq_eq_false_iff_ne.mpr c5
   have c5b1 : (a0_0 != 108) = true := bne_iff_ne.mpr c5
   by_cases c8 : a0_0 = 100
   ·
    rw [if_pos c8] at H
    have c8b0 : (a0_0 == 100) = true := beq_iff_eq.mpr c8
    have c8b1 : (a0_0 != 100) = false := bne_eq_false_iff_eq.mpr c8
    clear c8
    obtain rfl := Option.some.inj H
    go_enter Try.func89, Try.ntmps89
    go_wp2_with (first | ((with_reducible refine gate_dst (N := 1) rfl ?_); refine box_event ?hg (N := 1) ?hd (cs := #[.int .u8 a0_0, .int .u8 a0_1, .int .i64 a0_2, .int .i64 a0_3]) (t := 129) ?hr ?_; (case hd => rfl); (case hg => rfl); (case hr => first | (go_simp; done) | (go_simp; rfl)); intro gb141 hg w9 hbox hb; have n0_ := Aside0.mk (below_step (by repeat (first | (with_reducible first | exact HB.out | apply below_alloc | apply pw_below_drewN | apply below_drew1) | exact HB.out)) hb); have n1_ := Aside0.mk (hbox); have n2_ := Aside0.mk ((by rw [hg]; exact (below_size (by repeat (first | (with_reducible first | exact HB.out | apply below_alloc | apply pw_below_drewN | apply below_drew1) | exact HB.out))) : w.heap.size ≤ gb141)); have n3_ := Aside0.mk ((by rw [hg]; exact (below_size (by repeat (first | (with_reducible first | exact HB.out | apply below_alloc | apply pw_below_drewN | apply below_drew1) | exact HB.out))) : w.heap.size ≤ gb141)); clear HB; have HB := n0_; have BK141 := n1_; have GW141 := n2_; have GE141 := n3_; clear n0_ n1_ n2_ n3_; clear hb hbox hg; have hcz10_0 : w9.cell? ⟨gb141, 0, none⟩ = some (.int .u8 a0_0) := (blk_cell BK141.out 0).trans rfl; have hcz10_1 : w9.cell? ⟨gb141, 1, none⟩ = some (.int .u8 a0_1) := (blk_cell BK141.out 1).trans rfl; have hcz10_2 : w9.cell? ⟨gb141, 2, none⟩ = some (.int .i64 a0_2) := (blk_cell BK141.out 2).trans rfl; have hcz10_3 : w9.cell? ⟨gb141, 3, none⟩ = some (.int .i64 a0_3) := (blk_cell BK141.out 3).trans rfl; have hfz10_0 := blk_frozen BK141.out 0; have hfz10_1 := blk_frozen BK141.out 1; have hfz10_2 := blk_frozen BK141.out 2; have hfz10_3 := blk_frozen BK141.out 3))
    go_ret
    exact ⟨by first | rfl | (simp [errW_none, errW_some] <;> rfl) | (simp [*, errW_none, errW_some] <;> rfl), by repeat (first | (with_reducible first | exact HB.out | apply below_alloc | apply pw_below_drewN | apply below_drew1 | refine below_set ?_ GE141.out) | exact HB.out)⟩
   ·
    rw [if_neg c8] at H
    have c8b0 : (a0_0 == 100) = false := beq_eq_false_iff_ne.mpr c8
    have c8b1 : (a0_0 != 100) = true := bne_iff_ne.mpr c8
    obtain rfl := Option.some.inj H
    go_enter Try.func89, Try.ntmps89
    go_wp2_with (first | ((with_reducible refine gate_dst (N := 1) rfl ?_); refine box_event ?hg (N := 1) ?hd (cs := #[.int .u8 a0_0, .int .u8 a0_1, .int .i64 a0_2, .int .i64 a0_3]) (t := 129) ?hr ?_; (case hd => rfl); (case hg => rfl); (case hr => first | (go_simp; done) | (go_simp; rfl)); intro gb141 hg w11 hbox hb; have n0_ := Aside0.mk (below_step (by repeat (first | (with_reducible first | exact HB.out | apply below_alloc | apply pw_below_drewN | apply below_drew1) | exact HB.out)) hb); have n1_ := Aside0.mk (hbox); have n2_ := Aside0.mk ((by rw [hg]; exact (below_size (by repeat (first | (with_reducible first | exact HB.out | apply below_alloc | apply pw_below_drewN | apply below_drew1) | exact HB.out))) : w.heap.size ≤ gb141)); have n3_ := Aside0.mk ((by rw [hg]; exact (below_size (by repeat (first | (with_reducible first | exact HB.out | apply below_alloc | apply pw_below_drewN | apply below_drew1) | exact HB.out))) : w.heap.size ≤ gb141)); clear HB; have HB := n0_; have BK141 := n1_; have GW141 := n2_; have GE141 := n3_; clear n0_ n1_ n2_ n3_; clear hb hbox hg; have hcz12_0 : w11.cell? ⟨gb141, 0, none⟩ = some (.int .u8 a0_0) := (blk_cell BK141.out 0).trans rfl; have hcz12_1 : w11.cell? ⟨gb141, 1, none⟩ = some (.int .u8 a0_1) := (blk_cell BK141.out 1).trans rfl; have hcz12_2 : w11.cell? ⟨gb141, 2, none⟩ = some (.int .i64 a0_2) := (blk_cell BK141.out 2).trans rfl; have hcz12_3 : w11.cell? ⟨gb141, 3, none⟩ = some (.int .i64 a0_3) := (blk_cell BK141.out 3).trans rfl; have hfz12_0 := blk_frozen BK141.out 0; have hfz12_1 := blk_frozen BK141.out 1; have hfz12_2 := blk_frozen BK141.out 2; have hfz12_3 := blk_frozen BK141.out 3))
    go_ret
    exact ⟨by first | rfl | (simp [errW_none, errW_some] <;> rfl) | (simp [*, errW_none, errW_some] <;> rfl), by repeat (first | (with_reducible first | exact HB.out | apply below_alloc | apply pw_below_drewN | apply below_drew1 | refine below_set ?_ GE141.out) | exact HB.out)⟩
def arcadelaw12_other.l0 : Nat → List Int → List Int → Int → Option (List Int)
 | 0, _, _, _ => none
 | k + 1, x0, x3, x4 => if x4 < (x0.length : Int) then (if 0 ≤ x4 then (if x3.length < 140737488355328 then (arcadelaw12_other.l0 k x0 (x3 ++ [Go.bits .xor .u8 (rd x0 x4) 85]) (wrap64 (x4 + 1))) else (none)) else (none)) else (some x3)
def arcadelaw12_other.f (k : Nat) (l0 : List Int) : Option (List Int) := arcadelaw12_other.l0 k l0 ([] : List Int) 0
set_option maxHeartbeats 8000000 in
set_option maxRecDepth 100000 in
theorem arcadelaw12_other.calls (k : Nat) (A0 : Option Addr) (c0 : Nat) (l0 : List Int) (r : List Int) (w : World) (hr0 : Kd.C (Kd.int .u8) w A0 l0.length l0) (hc0 : l0.length ≤ c0) (h : arcadelaw12_other.f k l0 = some r) :
  Calls Try.prog 50 #[.slice A0 l0.length c0] w fun e w' => ∃ v0_ : Value, e = .returned (v0_) ∧ Kd.R (Kd.int .u8) 5 w' w.heap.size (fun _ => True) v0_ r ∧ Below w.heap.size w w' := by
 have HR0 := Aside0.mk hr0
 have HC0 := Aside0.mk hc0
 clear hr0 hc0
 have HB := Aside0.mk (Below.refl w.heap.size w)
 have H : (arcadelaw12_other.l0 k l0 ([] : List Int) 0) = some r := h
 clear h
 have H' := Aside0.mk H
 clear H
 go_enter Try.func50, Try.ntmps50
 go_wp2
 go_loopg [3, 4] k (fun kq v3 v4 w' => ∃ (x3_1 : List Int) (x4_1 : Int), v4 = .int .i64 x4_1 ∧ Aside0 (arcadelaw12_other.l0 kq l0 x3_1 x4_1 = some r) ∧ Aside0 (kq ≤ k) ∧ Aside0 (Kd.R (Kd.int .u8) 5 w' w.heap.size (fun _ => True) v3 x3_1) ∧ Aside0 (Below w.heap.size w w'))
 case atStart => exact ⟨(([] : List Int)), (0), (by first | rfl | (simp; done) | (simp [*]; done)), H', ⟨Nat.le_refl _⟩, ⟨by first | exact Kd.R_nil _ _ _ _ _ | exact Kd.N_nil _ _ _ _ _ | exact Kd.V_nil _ _ _ _ _ | exact Kd.Q_nil _ _ _ _ _ | exact Kd.S_nil _ _ _ _ _⟩, ⟨by repeat (first | (with_reducible first | exact HB.out | apply below_alloc | apply pw_below_drewN | apply below_drew1) | exact HB.out)⟩⟩
 case round =>
  clear H'
  obtain ⟨x3_1, x4_1, rfl, HA, HK1, HO_3, HB⟩ := hrel
  cases gk with
  | zero => exact absurd HA.out (by simp [arcadelaw12_other.l0])
  | succ k1 =>
   have H := HA.out
   clear HA
   simp only [arcadelaw12_other.l0] at H
   by_cases c2 : x4_1 < (l0.length : Int)
   ·
    rw [if_pos c2] at H
    have c2b0 : decide (x4_1 < (l0.length : Int)) = true := decide_eq_true c2
    clear c2
    by_cases c3 : 0 ≤ x4_1
    ·
     rw [if_pos c3] at H
     have c3b0 : decide (0 ≤ x4_1) = true := decide_eq_true c3
     clear c3
     by_cases c4 : x3_1.length < 140737488355328
     ·
      rw [if_pos c4] at H
      have LMc4 := Aside0.mk c4
      clear c4
      obtain ⟨y158, hy158⟩ : ∃ y_ : List Int, y_ = (x3_1 ++ [Go.bits .xor .u8 (rd l0 x4_1) 85]) := ⟨_, rfl⟩
      replace H : (arcadelaw12_other.l0 k1 l0 y158 (wrap64 (x4_1 + 1))) = some r := by first | (rw [hy158]; with_reducible exact H) | (have H2_ := (Option.bind_some _ _).symm.trans H; rw [hy158]; with_reducible exact H2_) | (have H2_ := (Option.bind_some _ _).symm.trans H; with_reducible exact H2_) | with_reducible exact H | (rw [hy158]; exact H) | exact H
      have Ny158 := Aside0.mk hy158
      clear hy158
      have H' := Aside0.mk H
      clear H
      have p157 : 0 ≤ (x4_1 : Int) := of_decide_eq_true (by first | (with_reducible assumption) | assumption)
      have q157 : x4_1 < (l0.length : Int) := of_decide_eq_true (by first | (with_reducible assumption) | assumption)
      obtain ⟨ad157, e157, hx157_0⟩ := Kd.at_int HR0.out x4_1 p157 q157
      cases e157
      replace hx157_0 := (HB.out.cell (World.block_lt_of_cell? w _ hx157_0)).trans hx157_0
      replace p157 := eq_true p157
      replace q157 := eq_true q157
      go_wp2_with (first | ((with_reducible refine gate_builtin (b := .append) (xs := #[.tmp 11, .tmp 17]) rfl ?_); at_builtin; refine Kd.R_append (Kd.int .u8) (w0 := w) w.heap.size rfl (.tmp 11) (.tmp 17) 22 5 (.int .u8 0) 1 rfl Try.underlying22 info5 rfl (by decide) (by omega) u3 x3_1 (Go.bits .xor .u8 (rd l0 x4_1) 85) [.int .u8 (Go.bits .xor .u8 (rd l0 x4_1) 85)] (fun _ => True) (fun _ => False) rfl rfl ?aP (fun _ hk => hk.elim) ?aF ?aO ?aB ?aS ?aL ?_; (case aP => exact rfl); (case aB => exact (by repeat (first | (with_reducible first | exact HB.out | apply below_alloc | apply pw_below_drewN | apply below_drew1) | exact HB.out))); (case aF => exact (fun _ _ => trivial)); (case aO => exact (by (with_reducible repeat (first | apply Kd.R_alloc | apply Kd.R_drewN | apply Kd.R_drew)); exact HO_3.out)); (case aS => exact (below_size (by repeat (first | (with_reducible first | exact HB.out | apply below_alloc | apply pw_below_drewN | apply below_drew1) | exact HB.out)))); (case aL => have := LMc4.out; omega); intro v159 w5 ho hb hg hat; rw [← Ny158.out] at ho; have n0_ := Aside0.mk (hb); have n1_ := Aside0.mk (ho); clear HB; clear HO_3; have HB := n0_; have HO160 := n1_; clear n0_ n1_; clear ho hb hg hat))
      go_roundg k1
      case measure => have := HK1.out; omega
      case rel => exact ⟨(y158), (wrap64 (x4_1 + 1)), (by first | rfl | (simp; done) | (simp [*]; done)), H', ⟨by have := HK1.out; omega⟩, ⟨by (with_reducible repeat (first | apply Kd.R_alloc | apply Kd.R_drewN | apply Kd.R_drew)); exact HO160.out⟩, ⟨by repeat (first | (with_reducible first | exact HB.out | apply below_alloc | apply pw_below_drewN | apply below_drew1) | exact HB.out)⟩⟩
     ·
      rw [if_neg c4] at H
      exact absurd H (by simp)
    ·
     rw [if_neg c3] at H
     exact absurd H (by simp)
   ·
    rw [if_neg c2] at H
    have c2b0 : decide (x4_1 < (l0.length : Int)) = false := decide_eq_false c2
    clear c2
    obtain rfl := Option.some.inj H
    go_wp2
    go_ret
    exact ⟨_, by first | rfl | (simp [errW_none, errW_some] <;> rfl) | (simp [*, errW_none, errW_some] <;> rfl), by (with_reducible repeat (first | apply Kd.R_alloc | apply Kd.R_drewN | apply Kd.R_drew)); exact HO_3.out, by repeat (first | (with_reducible first | exact HB.out | apply below_alloc | apply pw_below_drewN | apply below_drew1) | exact HB.out)⟩
def arcaderef12_reply.j0 : Nat → Int → Bool → Option ((List (S129)) × Bool)
 | 0, _, _ => none
 | k + 1, x4, x5 => if x5 = true then (some ((([(⟨108, 78, 0, 131072⟩ : S129)] : List (S129))), true)) else (if x4 = 2 then (some (([] : List (S129)), true)) else (if x4 = 3 then (some ((([(⟨119, 78, 1, 65535⟩ : S129)] : List (S129))), true)) else (if x4 = 4 then (some ((([(⟨108, 78, 0, 4294967295⟩ : S129), (⟨108, 77, 0, 4294967295⟩ : S129)] : List (S129))), true)) else (if x4 = 5 then (some ((([(⟨108, 78, 0, 4294967295⟩ : S129), (⟨100, 68, 0, 5760⟩ : S129)] : List (S129))), true)) else (if x4 = 7 then (some ((([(⟨98, 78, 0, 255⟩ : S129)] : List (S129))), true)) else (if x4 = 8 then (some ((([(⟨108, 78, 0, 4294967295⟩ : S129)] : List (S129))), true)) else (if x4 = 9 then (some ((([(⟨108, 78, 0, 4294967295⟩ : S129)] : List (S129))), true)) else (some (([] : List (S129)), false)))))))))
def arcaderef12_reply.f (k : Nat) (a0 : Int) : Option ((List (S129)) × Bool) := if a0 = 1 then (arcaderef12_reply.j0 k a0 (a0 == 1)) else (arcaderef12_reply.j0 k a0 (a0 == 6))
set_option maxHeartbeats 8000000 in
set_option maxRecDepth 100000 in
theorem arcaderef12_reply.calls (k : Nat) (a0 : Int) (r1 : List (S129)) (r2 : Bool) (w : World) (h : arcaderef12_reply.f k a0 = some (r1, r2)) :
  Calls Try.prog 79 #[.int .i64 a0] w fun e w' => ∃ v0_ : Value, e = .returned (.tuple #[v0_, .bool r2]) ∧ Kd.R k129 129 w' w.heap.size (fun _ => True) v0_ r1 ∧ Below w.heap.size w w' := by
 have hu129 := Try.underlying129
 have HB := Aside0.mk (Below.refl w.heap.size w)
 have H : (if a0 = 1 then (arcaderef12_reply.j0 k a0 (a0 == 1)) else (arcaderef12_reply.j0 k a0 (a0 == 6))) = some (r1, r2) := h
 clear h
 have HC2 := Aside0.mk H
 clear H
 go_enter Try.func79, Try.ntmps79
 go_upto_if 5 with (fail)
 go_cut [5] (fun v5 wc => ∃ (kq : Nat) (x5_1 : Bool), v5 = .bool x5_1 ∧ Aside0 (arcaderef12_reply.j0 kq a0 x5_1 = some (r1, r2)) ∧ Aside0 (kq ≤ k) ∧ Aside0 (Below w.heap.size w wc))
 case first =>
  have H := HC2.out
  clear HC2
  by_cases c3 : a0 = 1
  ·
   rw [if_pos c3] at H
   have c3b0 : (a0 == 1) = true := beq_iff_eq.mpr c3
   have c3b1 : (a0 != 1) = false := bne_eq_false_iff_eq.mpr c3
   clear c3
   (first | rw [c3b0] | (simp only [i64_w, i32_w]; rw [c3b0]) | skip)
   have H' := Aside0.mk H
   clear H
   go_wp2
   go_meet
   case rel => exact ⟨_, ((a0 == 1)), (by first | rfl | (simp; done) | (simp [*]; done)), H', ⟨by first | omega | exact Nat.le_refl _⟩, ⟨by repeat (first | (with_reducible first | exact HB.out | apply below_alloc | apply pw_below_drewN | apply below_drew1) | exact HB.out)⟩⟩
  ·
   rw [if_neg c3] at H
   have c3b0 : (a0 == 1) = false := beq_eq_false_iff_ne.mpr c3
   have c3b1 : (a0 != 1) = true := bne_iff_ne.mpr c3
   (first | rw [c3b0] | (simp only [i64_w, i32_w]; rw [c3b0]) | skip)
   have H' := Aside0.mk H
   clear H
   go_wp2
   go_meet
   case rel => exact ⟨_, ((a0 == 6)), (by first | rfl | (simp; done) | (simp [*]; done)), H', ⟨by first | omega | exact Nat.le_refl _⟩, ⟨by repeat (first | (with_reducible first | exact HB.out | apply below_alloc | apply pw_below_drewN | apply below_drew1) | exact HB.out)⟩⟩
 case rest =>
  clear HC2
  try clear p2
  try clear c3
  try clear c3b0
  try clear c3b1
  obtain ⟨kq, x5_1, rfl, HA, HJ1, HB⟩ := hcut
  cases kq with
  | zero => exact absurd HA.out (by simp [arcaderef12_reply.j0])
  | succ kj1 =>
   have H := HA.out
   clear HA
   simp only [arcaderef12_reply.j0] at H
   by_cases c4 : x5_1 = true
   ·
    subst c4
    have H1 : (some ((([(⟨108, 78, 0, 131072⟩ : S129)] : List (S129))), true)) = some (r1, r2) := by rw [if_pos rfl] at H; exact H
    clear H
    have H := H1
    clear H1
    obtain ⟨y161, hy161⟩ : ∃ y_ : List (S129), y_ = (([(⟨108, 78, 0, 131072⟩ : S129)] : List (S129))) := ⟨_, rfl⟩
    replace H : (some (y161, true)) = some (r1, r2) := by first | (rw [hy161]; with_reducible exact H) | (have H2_ := (Option.bind_some _ _).symm.trans H; rw [hy161]; with_reducible exact H2_) | (have H2_ := (Option.bind_some _ _).symm.trans H; with_reducible exact H2_) | with_reducible exact H | (rw [hy161]; exact H) | exact H
    have Ny161 := Aside0.mk hy161
    clear hy161
    simp only [Option.some.injEq, Prod.mk.injEq] at H
    obtain ⟨rfl, rfl⟩ := H
    go_wp2_with (first | ((with_reducible refine gate_dst (N := 9) rfl ?_); refine Kd.R_lit k129 _ 129 ?hg (N := 9) ?hd (xs := ([(⟨108, 78, 0, 131072⟩ : S129)] : List (S129))) (inner := [.int .u8 108, .int .u8 78, .int .i64 0, .int .i64 131072]) (ok := fun _ => True) (okp := fun _ => True) ?hr ?hp (fun _ hk => hk) trivial (Below.refl _ _) (Nat.le_refl _) (by simp) ?_; (case hd => rfl); (case hg => rfl); (case hr => first | (go_simp; done) | (go_simp; rfl)); (case hp => exact (Reps.c4 (show Kd.M k129 _ _ _ (⟨108, 78, 0, 131072⟩ : S129) [.int .u8 108, .int .u8 78, .int .i64 0, .int .i64 131072] from (k129_mkM _ _ _ (⟨108, 78, 0, 131072⟩ : S129) )) (Reps.none _ _))); intro v162 w5 ho6 hb hg_ hnew_; clear hg_ hnew_; (first | rw [← Ny161.out] at ho6 | (simp only [Int.reduceToNat] at ho6; rw [← Ny161.out] at ho6)); have n0_ := Aside0.mk (Kd.R_lower ho6 (below_size (by repeat (first | (with_reducible first | exact HB.out | apply below_alloc | apply pw_below_drewN | apply below_drew1) | exact HB.out)))); have n1_ := Aside0.mk (below_step (by repeat (first | (with_reducible first | exact HB.out | apply below_alloc | apply pw_below_drewN | apply below_drew1) | exact HB.out)) hb); clear HB; have HO163 := n0_; have HB := n1_; clear n0_ n1_; clear hb ho6))
    go_ret2
    exact ⟨_, by first | rfl | (simp [errW_none, errW_some] <;> rfl) | (simp [*, errW_none, errW_some] <;> rfl), by (with_reducible repeat (first | apply Kd.R_alloc | apply Kd.R_drewN | apply Kd.R_drew)); exact HO163.out, by repeat (first | (with_reducible first | exact HB.out | apply below_alloc | apply pw_below_drewN | apply below_drew1) | exact HB.out)⟩
   ·
    replace c4 := Bool.eq_false_iff.mpr c4
    subst c4
    have H1 : (if a0 = 2 then (some (([] : List (S129)), true)) else (if a0 = 3 then (some ((([(⟨119, 78, 1, 65535⟩ : S129)] : List (S129))), true)) else (if a0 = 4 then (some ((([(⟨108, 78, 0, 4294967295⟩ : S129), (⟨108, 77, 0, 4294967295⟩ : S129)] : List (S129))), true)) else (if a0 = 5 then (some ((([(⟨108, 78, 0, 4294967295⟩ : S129), (⟨100, 68, 0, 5760⟩ : S129)] : List (S129))), true)) else (if a0 = 7 then (some ((([(⟨98, 78, 0, 255⟩ : S129)] : List (S129))), true)) else (if a0 = 8 then (some ((([(⟨108, 78, 0, 4294967295⟩ : S129)] : List (S129))), true)) else (if a0 = 9 then (some ((([(⟨108, 78, 0, 4294967295⟩ : S129)] : List (S129))), true)) else (some (([] : List (S129)), false))))))))) = some (r1, r2) := by rw [if_neg (show ¬ (false = true) by decide)] at H; exact H
    clear H
    have H := H1
    clear H1
    by_cases c7 : a0 = 2
    ·
     rw [if_pos c7] at H
     have c7b0 : (a0 == 2) = true := beq_iff_eq.mpr c7
     have c7b1 : (a0 != 2) = false := bne_eq_false_iff_eq.mpr c7
     clear c7
     simp only [Option.some.injEq, Prod.mk.injEq] at H
     obtain ⟨rfl, rfl⟩ := H
     go_wp2
     go_ret2
     exact ⟨_, by first | rfl | (simp [errW_none, errW_some] <;> rfl) | (simp [*, errW_none, errW_some] <;> rfl), by first | exact Kd.R_nil _ _ _ _ _ | exact Kd.N_nil _ _ _ _ _ | exact Kd.V_nil _ _ _ _ _ | exact Kd.Q_nil _ _ _ _ _ | exact Kd.S_nil _ _ _ _ _, by repeat (first | (with_reducible first | exact HB.out | apply below_alloc | apply pw_below_drewN | apply below_drew1) | exact HB.out)⟩
    ·
     rw [if_neg c7] at H
     have c7b0 : (a0 == 2) = false := beq_eq_false_iff_ne.mpr c7
     have c7b1 : (a0 != 2) = true := bne_iff_ne.mpr c7
     by_cases c8 : a0 = 3
     ·
      rw [if_pos c8] at H
      have c8b0 : (a0 == 3) = true := beq_iff_eq.mpr c8
      have c8b1 : (a0 != 3) = false := bne_eq_false_iff_eq.mpr c8
      clear c8
      obtain ⟨y164, hy164⟩ : ∃ y_ : List (S129), y_ = (([(⟨119, 78, 1, 65535⟩ : S129)] : List (S129))) := ⟨_, rfl⟩
      replace H : (some (y164, true)) = some (r1, r2) := by first | (rw [hy164]; with_reducible exact H) | (have H2_ := (Option.bind_some _ _).symm.trans H; rw [hy164]; with_reducible exact H2_) | (have H2_ := (Option.bind_some _ _).symm.trans H; with_reducible exact H2_) | with_reducible exact H | (rw [hy164]; exact H) | exact H
      have Ny164 := Aside0.mk hy164
      clear hy164
      simp only [Option.some.injEq, Prod.mk.injEq] at H
      obtain ⟨rfl, rfl⟩ := H
      go_wp2_with (first | ((with_reducible refine gate_dst (N := 15) rfl ?_); refine Kd.R_lit k129 _ 129 ?hg (N := 15) ?hd (xs := ([(⟨119, 78, 1, 65535⟩ : S129)] : List (S129))) (inner := [.int .u8 119, .int .u8 78, .int .i64 1, .int .i64 65535]) (ok := fun _ => True) (okp := fun _ => True) ?hr ?hp (fun _ hk => hk) trivial (Below.refl _ _) (Nat.le_refl _) (by simp) ?_; (case hd => rfl); (case hg => rfl); (case hr => first | (go_simp; done) | (go_simp; rfl)); (case hp => exact (Reps.c4 (show Kd.M k129 _ _ _ (⟨119, 78, 1, 65535⟩ : S129) [.int .u8 119, .int .u8 78, .int .i64 1, .int .i64 65535] from (k129_mkM _ _ _ (⟨119, 78, 1, 65535⟩ : S129) )) (Reps.none _ _))); intro v165 w9 ho10 hb hg_ hnew_; clear hg_ hnew_; (first | rw [← Ny164.out] at ho10 | (simp only [Int.reduceToNat] at ho10; rw [← Ny164.out] at ho10)); have n0_ := Aside0.mk (Kd.R_lower ho10 (below_size (by repeat (first | (with_reducible first | exact HB.out | apply below_alloc | apply pw_below_drewN | apply below_drew1) | exact HB.out)))); have n1_ := Aside0.mk (below_step (by repeat (first | (with_reducible first | exact HB.out | apply below_alloc | apply pw_below_drewN | apply below_drew1) | exact HB.out)) hb); clear HB; have HO166 := n0_; have HB := n1_; clear n0_ n1_; clear hb ho10))
      go_ret2
      exact ⟨_, by first | rfl | (simp [errW_none, errW_some] <;> rfl) | (simp [*, errW_none, errW_some] <;> rfl), by (with_reducible repeat (first | apply Kd.R_alloc | apply Kd.R_drewN | apply Kd.R_drew)); exact HO166.out, by repeat (first | (with_reducible first | exact HB.out | apply below_alloc | apply pw_below_drewN | apply below_drew1) | exact HB.out)⟩
     ·
      rw [if_neg c8] at H
      have c8b0 : (a0 == 3) = false := beq_eq_false_iff_ne.mpr c8
      have c8b1 : (a0 != 3) = true := bne_iff_ne.mpr c8
      by_cases c11 : a0 = 4
      ·
       rw [if_pos c11] at H
       have c11b0 : (a0 == 4) = true := beq_iff_eq.mpr c11
       have c11b1 : (a0 != 4) = false := bne_eq_false_iff_eq.mpr c11
       clear c11
       obtain ⟨y167, hy167⟩ : ∃ y_ : List (S129), y_ = (([(⟨108, 78, 0, 4294967295⟩ : S129), (⟨108, 77, 0, 4294967295⟩ : S129)] : List (S129))) := ⟨_, rfl⟩
       replace H : (some (y167, true)) = some (r1, r2) := by first | (rw [hy167]; with_reducible exact H) | (have H2_ := (Option.bind_some _ _).symm.trans H; rw [hy167]; with_reducible exact H2_) | (have H2_ := (Option.bind_some _ _).symm.trans H; with_reducible exact H2_) | with_reducible exact H | (rw [hy167]; exact H) | exact H
       have Ny167 := Aside0.mk hy167
       clear hy167
       simp only [Option.some.injEq, Prod.mk.injEq] at H
       obtain ⟨rfl, rfl⟩ := H
       go_wp2_with (first | ((with_reducible refine gate_dst (N := 20) rfl ?_); refine Kd.R_lit k129 _ 129 ?hg (N := 20) ?hd (xs := ([(⟨108, 78, 0, 4294967295⟩ : S129), (⟨108, 77, 0, 4294967295⟩ : S129)] : List (S129))) (inner := [.int .u8 108, .int .u8 78, .int .i64 0, .int .i64 4294967295, .int .u8 108, .int .u8 77, .int .i64 0, .int .i64 4294967295]) (ok := fun _ => True) (okp := fun _ => True) ?hr ?hp (fun _ hk => hk) trivial (Below.refl _ _) (Nat.le_refl _) (by simp) ?_; (case hd => rfl); (case hg => rfl); (case hr => first | (go_simp; done) | (go_simp; rfl)); (case hp => exact (Reps.c4 (show Kd.M k129 _ _ _ (⟨108, 78, 0, 4294967295⟩ : S129) [.int .u8 108, .int .u8 78, .int .i64 0, .int .i64 4294967295] from (k129_mkM _ _ _ (⟨108, 78, 0, 4294967295⟩ : S129) )) (Reps.c4 (show Kd.M k129 _ _ _ (⟨108, 77, 0, 4294967295⟩ : S129) [.int .u8 108, .int .u8 77, .int .i64 0, .int .i64 4294967295] from (k129_mkM _ _ _ (⟨108, 77, 0, 4294967295⟩ : S129) )) (Reps.none _ _)))); intro v168 w12 ho13 hb hg_ hnew_; clear hg_ hnew_; (first | rw [← Ny167.out] at ho13 | (simp only [Int.reduceToNat] at ho13; rw [← Ny167.out] at ho13)); have n0_ := Aside0.mk (Kd.R_lower ho13 (below_size (by repeat (first | (with_reducible first | exact HB.out | apply below_alloc | apply pw_below_drewN | apply below_drew1) | exact HB.out)))); have n1_ := Aside0.mk (below_step (by repeat (first | (with_reducible first | exact HB.out | apply below_alloc | apply pw_below_drewN | apply below_drew1) | exact HB.out)) hb); clear HB; have HO169 := n0_; have HB := n1_; clear n0_ n1_; clear hb ho13))
       go_ret2
       exact ⟨_, by first | rfl | (simp [errW_none, errW_some] <;> rfl) | (simp [*, errW_none, errW_some] <;> rfl), by (with_reducible repeat (first | apply Kd.R_alloc | apply Kd.R_drewN | apply Kd.R_drew)); exact HO169.out, by repeat (first | (with_reducible first | exact HB.out | apply below_alloc | apply pw_below_drewN | apply below_drew1) | exact HB.out)⟩
      ·
       rw [if_neg c11] at H
       have c11b0 : (a0 == 4) = false := beq_eq_false_iff_ne.mpr c11
       have c11b1 : (a0 != 4) = true := bne_iff_ne.mpr c11
       by_cases c14 : a0 = 5
       ·
        rw [if_pos c14] at H
        have c14b0 : (a0 == 5) = true := beq_iff_eq.mpr c14
        have c14b1 : (a0 != 5) = false := bne_eq_false_iff_eq.mpr c14
        clear c14
        obtain ⟨y170, hy170⟩ : ∃ y_ : List (S129), y_ = (([(⟨108, 78, 0, 4294967295⟩ : S129), (⟨100, 68, 0, 5760⟩ : S129)] : List (S129))) := ⟨_, rfl⟩
        replace H : (some (y170, true)) = some (r1, r2) := by first | (rw [hy170]; with_reducible exact H) | (have H2_ := (Option.bind_some _ _).symm.trans H; rw [hy170]; with_reducible exact H2_) | (have H2_ := (Option.bind_some _ _).symm.trans H; with_reducible exact H2_) | with_reducible exact H | (rw [hy170]; exact H) | exact H
        have Ny170 := Aside0.mk hy170
        clear hy170
        simp only [Option.some.injEq, Prod.mk.injEq] at H
        obtain ⟨rfl, rfl⟩ := H
        go_wp2_with (first | ((with_reducible refine gate_dst (N := 25) rfl ?_); refine Kd.R_lit k129 _ 129 ?hg (N := 25) ?hd (xs := ([(⟨108, 78, 0, 4294967295⟩ : S129), (⟨100, 68, 0, 5760⟩ : S129)] : List (S129))) (inner := [.int .u8 108, .int .u8 78, .int .i64 0, .int .i64 4294967295, .int .u8 100, .int .u8 68, .int .i64 0, .int .i64 5760]) (ok := fun _ => True) (okp := fun _ => True) ?hr ?hp (fun _ hk => hk) trivial (Below.refl _ _) (Nat.le_refl _) (by simp) ?_; (case hd => rfl); (case hg => rfl); (case hr => first | (go_simp; done) | (go_simp; rfl)); (case hp => exact (Reps.c4 (show Kd.M k129 _ _ _ (⟨108, 78, 0, 4294967295⟩ : S129) [.int .u8 108, .int .u8 78, .int .i64 0, .int .i64 4294967295] from (k129_mkM _ _ _ (⟨108, 78, 0, 4294967295⟩ : S129) )) (Reps.c4 (show Kd.M k129 _ _ _ (⟨100, 68, 0, 5760⟩ : S129) [.int .u8 100, .int .u8 68, .int .i64 0, .int .i64 5760] from (k129_mkM _ _ _ (⟨100, 68, 0, 5760⟩ : S129) )) (Reps.none _ _)))); intro v171 w15 ho16 hb hg_ hnew_; clear hg_ hnew_; (first | rw [← Ny170.out] at ho16 | (simp only [Int.reduceToNat] at ho16; rw [← Ny170.out] at ho16)); have n0_ := Aside0.mk (Kd.R_lower ho16 (below_size (by repeat (first | (with_reducible first | exact HB.out | apply below_alloc | apply pw_below_drewN | apply below_drew1) | exact HB.out)))); have n1_ := Aside0.mk (below_step (by repeat (first | (with_reducible first | exact HB.out | apply below_alloc | apply pw_below_drewN | apply below_drew1) | exact HB.out)) hb); clear HB; have HO172 := n0_; have HB := n1_; clear n0_ n1_; clear hb ho16))
        go_ret2
        exact ⟨_, by first | rfl | (simp [errW_none, errW_some] <;> rfl) | (simp [*, errW_none, errW_some] <;> rfl), by (with_reducible repeat (first | apply Kd.R_alloc | apply Kd.R_drewN | apply Kd.R_drew)); exact HO172.out, by repeat (first | (with_reducible first | exact HB.out | apply below_alloc | apply pw_below_drewN | apply below_drew1) | exact HB.out)⟩
       ·
        rw [if_neg c14] at H
        have c14b0 : (a0 == 5) = false := beq_eq_false_iff_ne.mpr c14
        have c14b1 : (a0 != 5) = true := bne_iff_ne.mpr c14
        by_cases c17 : a0 = 7
        ·
         rw [if_pos c17] at H
         have c17b0 : (a0 == 7) = true := beq_iff_eq.mpr c17
         have c17b1 : (a0 != 7) = false := bne_eq_false_iff_eq.mpr c17
         clear c17
         obtain ⟨y173, hy173⟩ : ∃ y_ : List (S129), y_ = (([(⟨98, 78, 0, 255⟩ : S129)] : List (S129))) := ⟨_, rfl⟩
         replace H : (some (y173, true)) = some (r1, r2) := by first | (rw [hy173]; with_reducible exact H) | (have H2_ := (Option.bind_some _ _).symm.trans H; rw [hy173]; with_reducible exact H2_) | (have H2_ := (Option.bind_some _ _).symm.trans H; with_reducible exact H2_) | with_reducible exact H | (rw [hy173]; exact H) | exact H
         have Ny173 := Aside0.mk hy173
         clear hy173
         simp only [Option.some.injEq, Prod.mk.injEq] at H
         obtain ⟨rfl, rfl⟩ := H
         go_wp2_with (first | ((with_reducible refine gate_dst (N := 29) rfl ?_); refine Kd.R_lit k129 _ 129 ?hg (N := 29) ?hd (xs := ([(⟨98, 78, 0, 255⟩ : S129)] : List (S129))) (inner := [.int .u8 98, .int .u8 78, .int .i64 0, .int .i64 255]) (ok := fun _ => True) (okp := fun _ => True) ?hr ?hp (fun _ hk => hk) trivial (Below.refl _ _) (Nat.le_refl _) (by simp) ?_; (case hd => rfl); (case hg => rfl); (case hr => first | (go_simp; done) | (go_simp; rfl)); (case hp => exact (Reps.c4 (show Kd.M k129 _ _ _ (⟨98, 78, 0, 255⟩ : S129) [.int .u8 98, .int .u8 78, .int .i64 0, .int .i64 255] from (k129_mkM _ _ _ (⟨98, 78, 0, 255⟩ : S129) )) (Reps.none _ _))); intro v174 w18 ho19 hb hg_ hnew_; clear hg_ hnew_; (first | rw [← Ny173.out] at ho19 | (simp only [Int.reduceToNat] at ho19; rw [← Ny173.out] at ho19)); have n0_ := Aside0.mk (Kd.R_lower ho19 (below_size (by repeat (first | (with_reducible first | exact HB.out | apply below_alloc | apply pw_below_drewN | apply below_drew1) | exact HB.out)))); have n1_ := Aside0.mk (below_step (by repeat (first | (with_reducible first | exact HB.out | apply below_alloc | apply pw_below_drewN | apply below_drew1) | exact HB.out)) hb); clear HB; have HO175 := n0_; have HB := n1_; clear n0_ n1_; clear hb ho19))
         go_ret2
         exact ⟨_, by first | rfl | (simp [errW_none, errW_some] <;> rfl) | (simp [*, errW_none, errW_some] <;> rfl), by (with_reducible repeat (first | apply Kd.R_alloc | apply Kd.R_drewN | apply Kd.R_drew)); exact HO175.out, by repeat (first | (with_reducible first | exact HB.out | apply below_alloc | apply pw_below_drewN | apply below_drew1) | exact HB.out)⟩
        ·
         rw [if_neg c17] at H
         have c17b0 : (a0 == 7) = false := beq_eq_false_iff_ne.mpr c17
         have c17b1 : (a0 != 7) = true := bne_iff_ne.mpr c17
         by_cases c20 : a0 = 8
         ·
          rw [if_pos c20] at H
          have c20b0 : (a0 == 8) = true := beq_iff_eq.mpr c20
          have c20b1 : (a0 != 8) = false := bne_eq_false_iff_eq.mpr c20
          clear c20
          obtain ⟨y176, hy176⟩ : ∃ y_ : List (S129), y_ = (([(⟨108, 78, 0, 4294967295⟩ : S129)] : List (S129))) := ⟨_, rfl⟩
          replace H : (some (y176, true)) = some (r1, r2) := by first | (rw [hy176]; with_reducible exact H) | (have H2_ := (Option.bind_some _ _).symm.trans H; rw [hy176]; with_reducible exact H2_) | (have H2_ := (Option.bind_some _ _).symm.trans H; with_reducible exact H2_) | with_reducible exact H | (rw [hy176]; exact H) | exact H
          have Ny176 := Aside0.mk hy176
          clear hy176
          simp only [Option.some.injEq, Prod.mk.injEq] at H
          obtain ⟨rfl, rfl⟩ := H
          go_wp2_with (first | ((with_reducible refine gate_dst (N := 34) rfl ?_); refine Kd.R_lit k129 _ 129 ?hg (N := 34) ?hd (xs := ([(⟨108, 78, 0, 4294967295⟩ : S129)] : List (S129))) (inner := [.int .u8 108, .int .u8 78, .int .i64 0, .int .i64 4294967295]) (ok := fun _ => True) (okp := fun _ => True) ?hr ?hp (fun _ hk => hk) trivial (Below.refl _ _) (Nat.le_refl _) (by simp) ?_; (case hd => rfl); (case hg => rfl); (case hr => first | (go_simp; done) | (go_simp; rfl)); (case hp => exact (Reps.c4 (show Kd.M k129 _ _ _ (⟨108, 78, 0, 4294967295⟩ : S129) [.int .u8 108, .int .u8 78, .int .i64 0, .int .i64 4294967295] from (k129_mkM _ _ _ (⟨108, 78, 0, 4294967295⟩ : S129) )) (Reps.none _ _))); intro v177 w21 ho22 hb hg_ hnew_; clear hg_ hnew_; (first | rw [← Ny176.out] at ho22 | (simp only [Int.reduceToNat] at ho22; rw [← Ny176.out] at ho22)); have n0_ := Aside0.mk (Kd.R_lower ho22 (below_size (by repeat (first | (with_reducible first | exact HB.out | apply below_alloc | apply pw_below_drewN | apply below_drew1) | exact HB.out)))); have n1_ := Aside0.mk (below_step (by repeat (first | (with_reducible first | exact HB.out | apply below_alloc | apply pw_below_drewN | apply below_drew1) | exact HB.out)) hb); clear HB; have HO178 := n0_; have HB := n1_; clear n0_ n1_; clear hb ho22))
          go_ret2
          exact ⟨_, by first | rfl | (simp [errW_none, errW_some] <;> rfl) | (simp [*, errW_none, errW_some] <;> rfl), by (with_reducible repeat (first | apply Kd.R_alloc | apply Kd.R_drewN | apply Kd.R_drew)); exact HO178.out, by repeat (first | (with_reducible first | exact HB.out | apply below_alloc | apply pw_below_drewN | apply below_drew1) | exact HB.out)⟩
         ·
          rw [if_neg c20] at H
          have c20b0 : (a0 == 8) = false := beq_eq_false_iff_ne.mpr c20
          have c20b1 : (a0 != 8) = true := bne_iff_ne.mpr c20
          by_cases c23 : a0 = 9
          ·
           rw [if_pos c23] at H
           have c23b0 : (a0 == 9) = true := beq_iff_eq.mpr c23
           have c23b1 : (a0 != 9) = false := bne_eq_false_iff_eq.mpr c23
           clear c23
           obtain ⟨y179, hy179⟩ : ∃ y_ : List (S129), y_ = (([(⟨108, 78, 0, 4294967295⟩ : S129)] : List (S129))) := ⟨_, rfl⟩
           replace H : (some (y179, true)) = some (r1, r2) := by first | (rw [hy179]; with_reducible exact H) | (have H2_ := (Option.bind_some _ _).symm.trans H; rw [hy179]; with_reducible exact H2_) | (have H2_ := (Option.bind_some _ _).symm.trans H; with_reducible exact H2_) | with_reducible exact H | (rw [hy179]; exact H) | exact H
           have Ny179 := Aside0.mk hy179
           clear hy179
           simp only [Option.some.injEq, Prod.mk.injEq] at H
           obtain ⟨rfl, rfl⟩ := H
           go_wp2_with (first | ((with_reducible refine gate_dst (N := 34) rfl ?_); refine Kd.R_lit k129 _ 129 ?hg (N := 34) ?hd (xs := ([(⟨108, 78, 0, 4294967295⟩ : S129)] : List (S129))) (inner := [.int .u8 108, .int .u8 78, .int .i64 0, .int .i64 4294967295]) (ok := fun _ => True) (okp := fun _ => True) ?hr ?hp (fun _ hk => hk) trivial (Below.refl _ _) (Nat.le_refl _) (by simp) ?_; (case hd => rfl); (case hg => rfl); (case hr => first | (go_simp; done) | (go_simp; rfl)); (case hp => exact (Reps.c4 (show Kd.M k129 _ _ _ (⟨108, 78, 0, 4294967295⟩ : S129) [.int .u8 108, .int .u8 78, .int .i64 0, .int .i64 4294967295] from (k129_mkM _ _ _ (⟨108, 78, 0, 4294967295⟩ : S129) )) (Reps.none _ _))); intro v180 w24 ho25 hb hg_ hnew_; clear hg_ hnew_; (first | rw [← Ny179.out] at ho25 | (simp only [Int.reduceToNat] at ho25; rw [← Ny179.out] at ho25)); have n0_ := Aside0.mk (Kd.R_lower ho25 (below_size (by repeat (first | (with_reducible first | exact HB.out | apply below_alloc | apply pw_below_drewN | apply below_drew1) | exact HB.out)))); have n1_ := Aside0.mk (below_step (by repeat (first | (with_reducible first | exact HB.out | apply below_alloc | apply pw_below_drewN | apply below_drew1) | exact HB.out)) hb); clear HB; have HO181 := n0_; have HB := n1_; clear n0_ n1_; clear hb ho25))
           go_ret2
           exact ⟨_, by first | rfl | (simp [errW_none, errW_some] <;> rfl) | (simp [*, errW_none, errW_some] <;> rfl), by (with_reducible repeat (first | apply Kd.R_alloc | apply Kd.R_drewN | apply Kd.R_drew)); exact HO181.out, by repeat (first | (with_reducible first | exact HB.out | apply below_alloc | apply pw_below_drewN | apply below_drew1) | exact HB.out)⟩
          ·
           rw [if_neg c23] at H
           have c23b0 : (a0 == 9) = false := beq_eq_false_iff_ne.mpr c23
           have c23b1 : (a0 != 9) = true := bne_iff_ne.mpr c23
           simp only [Option.some.injEq, Prod.mk.injEq] at H
           obtain ⟨rfl, rfl⟩ := H
           go_wp2
           go_ret2
           exact ⟨_, by first | rfl | (simp [errW_none, errW_some] <;> rfl) | (simp [*, errW_none, errW_some] <;> rfl), by first | exact Kd.R_nil _ _ _ _ _ | exact Kd.N_nil _ _ _ _ _ | exact Kd.V_nil _ _ _ _ _ | exact Kd.Q_nil _ _ _ _ _ | exact Kd.S_nil _ _ _ _ _, by repeat (first | (with_reducible first | exact HB.out | apply below_alloc | apply pw_below_drewN | apply below_drew1) | exact HB.out)⟩
end Go.Proofs.Ytpflenaoplblkaa.PProtoAll
end
section
namespace Go.Proofs.Ytpflenaoplblkaa.ProBc
open Go.ChangeShapes Go.WideShapes Go.Deep
open Go.RowKit YtpflenaoplblkaaW.PrintWords YtpflenaoplblkaaW.PrintLast ProA ProB ProC ProI ProD ProE ProF ProG ProH ProJ ProK ProL ProM ProN ProO ProP ProQ ProR ProS ProT ProU ProV ProX ProZ ProBa ProW
set_option linter.unusedVariables false
set_option linter.unusedSimpArgs false
section
variable {H : Type} {enc : TypeId × Value → H} {P : Program} {w : World} {base : Nat} {spare : Nat → Bool} {held : Bool}
end
theorem five {α : Type} (xs : List α) (h : xs.length = 5) : ∃ a b c d e, xs = [a, b, c, d, e] := by
 match xs, h with
 | [a, b, c, d, e], _ => exact ⟨a, b, c, d, e, rfl⟩
theorem inner_bytes {H : Type} {enc : TypeId × Value → H} {W : World} {v : Value} {y : DataW H × List MemPlace} {fuel : Nat} (hf : DataW.trod enc Try.prog W 0 (fun _ => true) true fuel 22 [v] = some y) :
  ∃ (A : Option Addr) (c : Nat) (xs : List Int), v = .slice A xs.length c ∧ ReadsInt W .u8 A xs.length xs ∧ xs.length ≤ c ∧ u8s xs ∧ xs.length ≤ Rows.uptoBulk y.1 := by
 rcases open_ints Try.underlying22 Try.underlying5 (by kernel_rfl) hf with ⟨hcs, _⟩ | ⟨x, l, cc, zs, hcs, _, hl, hm, hz, hx, hcell, hwz⟩
 ·
  injection hcs with hcs
  subst hcs
  exact ⟨none, 0, [], rfl, ⟨rfl, by simp, fun hn => by simp at hn⟩, by simp, u8n, by have := one_le y.1; simp⟩
 ·
  injection hcs with hcs
  subst hcs
  have hzl : zs.length = cc := by simpa using hz
  have hlen : (zs.take l).length = l := by rw [List.length_take]; omega
  refine ⟨some x, cc, zs.take l, by rw [hlen], ?_, by omega, fun q hq => ?_, ?_⟩
  ·
   unfold maxLen at hm
   refine ⟨rfl, by omega, fun hn => ⟨x, rfl, fun j hj => ?_⟩⟩
   rw [hcell j (by omega)]
   simp only [List.getD_eq_getElem?_getD]
   rw [List.getElem?_take_of_lt (by omega)]
  ·
   have := hwz q (List.mem_of_mem_take hq)
   simp [Lit.wf, IntKind.min, IntKind.max, IntKind.signed, IntKind.bits] at this
   omega
  ·
   subst hx
   simp only [Rows.uptoBulk]
   have := length_le (H := H) (lits .u8 (zs.take l))
   have hll : (lits (H := H) .u8 (zs.take l)).length = l := by rw [show (lits (H := H) .u8 (zs.take l)).length = (zs.take l).length by simp [lits]]; exact hlen
   omega
end Go.Proofs.Ytpflenaoplblkaa.ProBc
end
section
namespace Go.Proofs.Ytpflenaoplblkaa.PaA
open Go.RowKit Go.Lib YtpflenaoplblkaaW.PrintWords YtpflenaoplblkaaW.PrintLast ProA ProB ProC ProI ProJ
set_option linter.unusedVariables false
set_option linter.unusedSimpArgs false
def okc (c : Int) : Bool := decide (97 ≤ c ∧ c ≤ 122 ∨ 48 ≤ c ∧ c ≤ 57 ∨ c = 45 ∨ c = 95)
def okFrom (s : ByteArray) (i : Nat) : Bool := (List.range' i (s.size - i)).all fun j => okc (bt s (j : Int))
theorem okFrom_end (s : ByteArray) (i : Nat) (h : s.size ≤ i) : okFrom s i = true := by
 unfold okFrom
 rw [Nat.sub_eq_zero_of_le h]
 rfl
theorem okFrom_step (s : ByteArray) (i : Nat) (h : i < s.size) : okFrom s i = (okc (bt s (i : Int)) && okFrom s (i + 1)) := by
 unfold okFrom
 rw [show s.size - i = (s.size - (i + 1)) + 1 by omega, List.range'_succ, List.all_cons]
theorem isName_l0 (s : ByteArray) (hs : s.size ≤ 1000000000) : ∀ (k i : Nat), i ≤ s.size → s.size - i < k → PProtoAll.arcaderef12_isName.l0 k s (i : Int) = some (okFrom s i) := by
  intro k
  induction k with
  | zero => intro i _ h; omega
  | succ k ih =>
    intro i hi hk
    simp only [PProtoAll.arcaderef12_isName.l0]
    by_cases h : i < s.size
    · have e1 : ((i : Int) < (s.size : Int)) := by omega
      have e2 : wrap64 ((i : Int) + 1) = ((i + 1 : Nat) : Int) := by rw [IntWalk.wrap64_in] <;> omega
      have hr := bt_range s (i : Int)
      rw [if_pos e1, if_pos (by omega), e2, okFrom_step s i h, ih (i + 1) (by omega) (by omega)]
      generalize bt s (i : Int) = c at hr
      generalize okFrom s (i + 1) = b
      have hc : okc c = decide (97 ≤ c ∧ c ≤ 122 ∨ 48 ≤ c ∧ c ≤ 57 ∨ c = 45 ∨ c = 95) := rfl
      repeat' split
      all_goals
        first
          | (exfalso; omega)
          | (have : okc c = true := by rw [hc, decide_eq_true_eq]; omega
             rw [this, Bool.true_and])
          | (have : okc c = false := by rw [hc, decide_eq_false_iff_not]; omega
             rw [this, Bool.false_and])
    · have e1 : ¬ ((i : Int) < (s.size : Int)) := by omega
      rw [if_neg e1, okFrom_end s i (by omega)]
theorem isName_f (s : ByteArray) (hs : s.size ≤ 1000000000) : PProtoAll.arcaderef12_isName.f (s.size + 1) s = some (okFrom s 0) := isName_l0 s hs (s.size + 1) 0 (by omega) (by omega)
theorem big_bad (n b0 b1 b2 b3 : Nat) (h : ¬ b0 < 128) : 128 ≤ (decodeN n b0 b1 b2 b3).1 := by
 unfold decodeN
 rw [if_neg h]
 repeat' split
 all_goals simp_all
 all_goals omega
theorem get_bt (s : ByteArray) (i : Nat) (h : i < s.size) : ((s.get! i).toNat : Int) = bt s (i : Int) := by
 unfold bt
 rw [Int.toNat_natCast, dif_pos h]
 congr 2
 show s.data[i]! = s.data[i]
 rw [getElem!_pos]
theorem idx_ok (s : ByteArray) : ∀ (f pos : Nat), pos ≤ s.size → s.size - pos ≤ f → (decide (idxFuncFrom bad true s f pos < 0) = okFrom s pos) := by
 intro f
 induction f with
 | zero =>
  intro pos h1 h2
  rw [okFrom_end s pos (by omega)]
  rfl
 | succ f ih =>
  intro pos h1 h2
  unfold idxFuncFrom
  by_cases h : pos < s.size
  ·
   rw [if_pos h, okFrom_step s pos h]
   have hd := decode_at s pos
   have hb := get_bt s pos h
   generalize (s.get! pos).toNat = b0 at hd hb
   rw [← hb]
   by_cases hc : b0 < 128
   ·
    have hd2 : Utf8.decode s pos = (b0, 1) := by rw [hd]; unfold decodeN; rw [if_pos hc]
    rw [hd2]
    by_cases hok : okc (b0 : Int) = true
    ·
     have hbad : bad b0 = false := by
      unfold okc at hok
      unfold bad
      simp at hok
      simp
      omega
     rw [hbad, if_neg (by simp), hok, Bool.true_and]
     exact ih (pos + 1) (by omega) (by omega)
    ·
     have hbad : bad b0 = true := by
      unfold okc at hok
      unfold bad
      simp at hok
      simp
      omega
     rw [hbad, if_pos rfl]
     simp only [Bool.not_eq_true] at hok
     rw [hok, Bool.false_and, decide_eq_false_iff_not]
     omega
   ·
    have h128 : 128 ≤ (Utf8.decode s pos).1 := by rw [hd]; exact big_bad _ _ _ _ _ hc
    have hbad : bad (Utf8.decode s pos).1 = true := by
     unfold bad
     simp
     omega
    have hok : okc (b0 : Int) = false := by
     unfold okc
     rw [decide_eq_false_iff_not]
     omega
    rw [hbad, if_pos rfl, hok, Bool.false_and, decide_eq_false_iff_not]
    omega
  ·
   rw [if_neg h, okFrom_end s pos (by omega)]
   rfl
theorem nameOk_eq (s : ByteArray) : nameOk s = (okFrom s 0 && (decide (1 ≤ s.size) && decide (s.size ≤ 16))) := by
 unfold nameOk
 rw [show Lib.idxFunc bad true s = idxFuncFrom bad true s s.size 0 from rfl, idx_ok s s.size 0 (by omega) (by omega), Bool.and_assoc]
theorem number_l0 (xs : List Int) (hu : u8s xs) (hl : xs.length ≤ 4) : ∀ (k i : Nat), i ≤ xs.length → xs.length - i < k → PProtoAll.arcaderef12_number.l0 k xs (be (xs.take i)) (i : Int) = some (be xs) := by
 intro k
 induction k with
 | zero => intro i _ h; omega
 | succ k ih =>
  intro i hi hk
  simp only [PProtoAll.arcaderef12_number.l0]
  by_cases h : i < xs.length
  ·
   have e1 : ((i : Int) < (xs.length : Int)) := by omega
   have h1 := be_lt hu i
   have h2 := u8_rd hu i
   have h3 := pow4 i (by omega)
   have e2 : wrap64 ((i : Int) + 1) = ((i + 1 : Nat) : Int) := by rw [IntWalk.wrap64_in] <;> omega
   have e3 : wrap64 (256 * be (xs.take i)) = 256 * be (xs.take i) := by rw [IntWalk.wrap64_in]; omega
   have e4 : wrap64 (rd xs (i : Int)) = rd xs (i : Int) := by rw [IntWalk.wrap64_in]; omega
   have e5 : wrap64 (256 * be (xs.take i) + rd xs (i : Int)) = be (xs.take (i + 1)) := by
    rw [be_step xs i h, IntWalk.wrap64_in] <;> omega
   rw [if_pos e1, if_pos (by omega), e3, e4, e5, e2]
   exact ih (i + 1) (by omega) (by omega)
  ·
   have e1 : ¬ ((i : Int) < (xs.length : Int)) := by omega
   rw [if_neg e1, List.take_of_length_le (by omega)]
theorem number_f (xs : List Int) (hu : u8s xs) (hl : xs.length ≤ 4) : PProtoAll.arcaderef12_number.f 5 xs = some (be xs) := by
 have h := number_l0 xs hu hl 5 0 (by omega) (by omega)
 exact h
theorem digits_step (k : Nat) (x : Int) (l : List Int) (j : Nat) (h0 : 0 ≤ x) (h1 : x < 4294967296) (hj : j < l.length) (hl : l.length ≤ 4) : PProtoAll.arcaderef12_digits.l0 (k + 1) x l (j : Int) = PProtoAll.arcaderef12_digits.l0 k (x / 256) (l.set j (x % 256)) ((j : Int) - 1) := by
 simp only [PProtoAll.arcaderef12_digits.l0]
 have e1 : wrap64 (Int.tdiv x 256) = x / 256 := by rw [Int.tdiv_eq_ediv_of_nonneg h0, IntWalk.wrap64_in]; omega
 have e2 : Int.tmod x 256 % 256 = x % 256 := by rw [Int.tmod_eq_emod_of_nonneg h0]; omega
 have e3 : wrap64 ((j : Int) - 1) = (j : Int) - 1 := by rw [IntWalk.wrap64_in]; omega
 rw [if_pos (by omega), if_pos (by omega), if_pos (by omega), e1, e2, e3, Int.toNat_natCast]
theorem digits_end (k : Nat) (x : Int) (l : List Int) (j : Int) (h : j < 0) : PProtoAll.arcaderef12_digits.l0 (k + 1) x l j = some l := by
 simp only [PProtoAll.arcaderef12_digits.l0]
 rw [if_neg (by omega)]
theorem digits_f (n : Int) (k : Nat) (h0 : 0 ≤ n) (h1 : n < 4294967296) (hk : k ≤ 4) : PProtoAll.arcaderef12_digits.f 6 n (k : Int) = some (beB n k) := by
 have hw : wrap64 ((k : Int) - 1) = (k : Int) - 1 := by rw [IntWalk.wrap64_in]; omega
 have hs : PProtoAll.arcaderef12_digits.f 6 n (k : Int) = PProtoAll.arcaderef12_digits.l0 6 n (List.replicate k 0) ((k : Int) - 1) := by
  simp only [PProtoAll.arcaderef12_digits.f]
  rw [if_pos (by omega), if_pos (by omega), hw, Int.toNat_natCast]
 rw [hs]
 have d1 : n / 256 ^ 0 = n := by simp
 have d2 : n / 256 ^ 1 = n / 256 := by simp
 have d3 : n / 256 ^ 2 = n / 256 / 256 := by omega
 have d4 : n / 256 ^ 3 = n / 256 / 256 / 256 := by omega
 rcases (show k = 0 ∨ k = 1 ∨ k = 2 ∨ k = 3 ∨ k = 4 by omega) with rfl | rfl | rfl | rfl | rfl
 ·
  rw [digits_end _ _ _ _ (by omega)]
  rfl
 ·
  rw [show ((1 : Nat) : Int) - 1 = ((0 : Nat) : Int) from rfl, digits_step _ _ _ 0 h0 h1 (by simp) (by simp), digits_end _ _ _ _ (by omega)]
  simp [beB]
 ·
  rw [show ((2 : Nat) : Int) - 1 = ((1 : Nat) : Int) from rfl, digits_step _ _ _ 1 h0 h1 (by simp) (by simp), show ((1 : Nat) : Int) - 1 = ((0 : Nat) : Int) from rfl, digits_step _ _ _ 0 (by omega) (by omega) (by simp) (by simp), digits_end _ _ _ _ (by omega)]
  simp [beB, List.replicate]
 ·
  rw [show ((3 : Nat) : Int) - 1 = ((2 : Nat) : Int) from rfl, digits_step _ _ _ 2 h0 h1 (by simp) (by simp), show ((2 : Nat) : Int) - 1 = ((1 : Nat) : Int) from rfl, digits_step _ _ _ 1 (by omega) (by omega) (by simp) (by simp), show ((1 : Nat) : Int) - 1 = ((0 : Nat) : Int) from rfl, digits_step _ _ _ 0 (by omega) (by omega) (by simp) (by simp), digits_end _ _ _ _ (by omega)]
  simp only [beB, d1, d2, d3]
  simp [List.replicate]
 ·
  rw [show ((4 : Nat) : Int) - 1 = ((3 : Nat) : Int) from rfl, digits_step _ _ _ 3 h0 h1 (by simp) (by simp), show ((3 : Nat) : Int) - 1 = ((2 : Nat) : Int) from rfl, digits_step _ _ _ 2 (by omega) (by omega) (by simp) (by simp), show ((2 : Nat) : Int) - 1 = ((1 : Nat) : Int) from rfl, digits_step _ _ _ 1 (by omega) (by omega) (by simp) (by simp), show ((1 : Nat) : Int) - 1 = ((0 : Nat) : Int) from rfl, digits_step _ _ _ 0 (by omega) (by omega) (by simp) (by simp), digits_end _ _ _ _ (by omega)]
  simp only [beB, d1, d2, d3, d4]
  simp [List.replicate]
end Go.Proofs.Ytpflenaoplblkaa.PaA
end
