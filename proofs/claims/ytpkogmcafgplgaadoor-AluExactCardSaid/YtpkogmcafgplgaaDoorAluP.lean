import Derived.Test.YtpkogmcafgplgaaDoorAluC
namespace Go.Proofs.YtpkogmcafgplgaaDoor.AluP
open Go.RowKit Go.Proofs.YtpkogmcafgplgaaDoor.AluA Go.Proofs.YtpkogmcafgplgaaDoor.AluB Go.Proofs.YtpkogmcafgplgaaDoor.AluC
set_option linter.unusedVariables false
set_option linter.unusedSectionVars false
/-! plain facts on the alu's sums and flags: no program in sight -/
def bi (b : Bool) (n : Int) : Int := if b then n else 0
theorem fl16 (z n h c : Bool) : bits .and .u8 (flagsV z n h c) 16 = bi c 16 := by cases z <;> cases n <;> cases h <;> cases c <;> decide
theorem fl48 (z n h c : Bool) : bits .and .u8 (flagsV z n h c) 48 = bi h 32 + bi c 16 := by cases z <;> cases n <;> cases h <;> cases c <;> decide
theorem fl64 (z n h c : Bool) : bits .and .u8 (flagsV z n h c) 64 = bi n 64 := by cases z <;> cases n <;> cases h <;> cases c <;> decide
theorem fl96 (z n h c : Bool) : bits .and .u8 (flagsV z n h c) 96 = bi n 64 + bi h 32 := by cases z <;> cases n <;> cases h <;> cases c <;> decide
theorem fl128 (z n h c : Bool) : bits .and .u8 (flagsV z n h c) 128 = bi z 128 := by cases z <;> cases n <;> cases h <;> cases c <;> decide
theorem fl79 (z n h c : Bool) : bits .and .u8 (flagsV z n h c) 79 = bi n 64 := by cases z <;> cases n <;> cases h <;> cases c <;> decide
theorem fl144 (z n h c : Bool) : bits .and .u8 (flagsV z n h c) 144 = bi z 128 + bi c 16 := by cases z <;> cases n <;> cases h <;> cases c <;> decide
theorem fl224 (z n h c : Bool) : bits .and .u8 (flagsV z n h c) 224 = bi z 128 + bi n 64 + bi h 32 := by cases z <;> cases n <;> cases h <;> cases c <;> decide
theorem fl31 (z n h c : Bool) : bits .and .u8 (flagsV z n h c) 31 = bi c 16 := by cases z <;> cases n <;> cases h <;> cases c <;> decide
theorem dec_iff {p q : Prop} [Decidable p] [Decidable q] (h : p ↔ q) : decide p = decide q := by simp [h]

section
variable (x y f : Int)
theorem aV0 : arithV 0 x y f = (x + y + 0) % 256 := rfl
theorem aV1 : arithV 1 x y f = (x + y + f / 16 % 2) % 256 := rfl
theorem aV2 : arithV 2 x y f = (x - y - 0) % 256 := rfl
theorem aV3 : arithV 3 x y f = (x - y - f / 16 % 2) % 256 := rfl
theorem aV5 : arithV 5 x y f = bits .xor .u8 x y := rfl
theorem aV7 : arithV 7 x y f = x := rfl
theorem aF0 : arithF 0 x y f = flagsV ((x + y + 0) % 256 == 0) false (decide (15 < x % 16 + y % 16 + 0)) (decide (255 < x + y + 0)) := rfl
theorem aF1 : arithF 1 x y f = flagsV ((x + y + f / 16 % 2) % 256 == 0) false (decide (15 < x % 16 + y % 16 + f / 16 % 2)) (decide (255 < x + y + f / 16 % 2)) := rfl
theorem aF2 : arithF 2 x y f = flagsV ((x - y - 0) % 256 == 0) true (decide (x % 16 < y % 16 + 0)) (decide (x - y - 0 < 0)) := rfl
theorem aF3 : arithF 3 x y f = flagsV ((x - y - f / 16 % 2) % 256 == 0) true (decide (x % 16 < y % 16 + f / 16 % 2)) (decide (x - y - f / 16 % 2 < 0)) := rfl
theorem aF7 : arithF 7 x y f = flagsV ((x - y - 0) % 256 == 0) true (decide (x % 16 < y % 16 + 0)) (decide (x - y - 0 < 0)) := rfl
end

theorem xor_nat (n m : Nat) (hn : n < 2 ^ 8) (hm : m < 2 ^ 8) : bits .xor .u8 (n : Int) (m : Int) = ((n ^^^ m : Nat) : Int) := by
  have hn' : n % 2 ^ IntKind.u8.bits = n := Nat.mod_eq_of_lt hn
  have hm' : m % 2 ^ IntKind.u8.bits = m := Nat.mod_eq_of_lt hm
  simp only [bits, BitVec.ofInt_natCast, BitVec.toNat_xor, BitVec.toNat_ofNat, hn', hm']
  exact wraps_u8 _ (by omega) (by have := Nat.xor_lt_two_pow hn hm; omega)

section
variable (x y f : Int) (x0 : 0 ≤ x) (x1 : x ≤ 255) (y0 : 0 ≤ y) (y1 : y ≤ 255) (f0 : 0 ≤ f) (f1 : f ≤ 255)
include x0 x1 y0 y1
theorem xor_twice : bits .xor .u8 (bits .xor .u8 x y) y = x := by
  obtain ⟨n, rfl⟩ := Int.eq_ofNat_of_zero_le x0
  obtain ⟨m, rfl⟩ := Int.eq_ofNat_of_zero_le y0
  have hn : n < 2 ^ 8 := by omega
  have hm : m < 2 ^ 8 := by omega
  rw [xor_nat n m hn hm, xor_nat _ m (Nat.xor_lt_two_pow hn hm) hm, Nat.xor_assoc, Nat.xor_self, Nat.xor_zero]
theorem back1 : arithV 2 (arithV 0 x y 0) y 0 = x := by rw [aV2, aV0]; omega
theorem back5 : arithV 5 (arithV 5 x y 0) y 0 = x := by rw [aV5, aV5]; exact xor_twice x y x0 x1 y0 y1
theorem back6 : bits .and .u8 (arithF 0 x y 0) 48 = bits .and .u8 (arithF 2 (arithV 0 x y 0) y 0) 48 := by
  rw [aF0, aF2, aV0, fl48, fl48]
  rw [dec_iff (show 15 < x % 16 + y % 16 + 0 ↔ (x + y + 0) % 256 % 16 < y % 16 + 0 by omega), dec_iff (show 255 < x + y + 0 ↔ (x + y + 0) % 256 - y - 0 < 0 by omega)]
theorem back9 : arithV 0 x y 0 + bits .and .u8 (arithF 0 x y 0) 16 * 16 = x + y := by
  rw [aF0, aV0, fl16]
  unfold bi
  split <;> simp_all <;> omega
include f0 f1
theorem back2 : arithV 3 (arithV 1 x y f) y f = x := by rw [aV3, aV1]; omega
theorem back7 : bits .and .u8 (arithF 1 x y f) 48 = bits .and .u8 (arithF 3 (arithV 1 x y f) y f) 48 := by
  rw [aF1, aF3, aV1, fl48, fl48]
  rw [dec_iff (show 15 < x % 16 + y % 16 + f / 16 % 2 ↔ (x + y + f / 16 % 2) % 256 % 16 < y % 16 + f / 16 % 2 by omega), dec_iff (show 255 < x + y + f / 16 % 2 ↔ (x + y + f / 16 % 2) % 256 - y - f / 16 % 2 < 0 by omega)]
end

theorem bi_f (n : Int) : bi false n = 0 := rfl
theorem bi_t (n : Int) : bi true n = n := rfl
theorem flc (z n h c : Bool) : flagsV z n h c / 16 % 2 = bi c 1 := by cases z <;> cases n <;> cases h <;> cases c <;> decide
theorem bi_cases (p : Prop) [Decidable p] (n : Int) : (p ∧ bi (decide p) n = n) ∨ (¬ p ∧ bi (decide p) n = 0) := by
  by_cases h : p
  · exact .inl ⟨h, by simp [bi, h]⟩
  · exact .inr ⟨h, by simp [bi, h]⟩
theorem bi_same {p q : Prop} [Decidable p] [Decidable q] (h : p ↔ q) (n : Int) : bi (decide p) n = bi (decide q) n := by rw [dec_iff h]
theorem join16 (u v : Int) (hu0 : 0 ≤ u) (hu : u ≤ 255) (hv0 : 0 ≤ v) (hv : v ≤ 255) : bits .or .u16 (u % 65536 * 256 % 65536) (v % 65536) = u * 256 + v := by
  have e1 : u % 65536 * 256 % 65536 = u * 256 := by omega
  have e2 : v % 65536 = v := by omega
  rw [e1, e2]
  exact bits_join .u16 16 (by decide) wraps_u16 8 (u * 256) v (by omega) (by omega) (by omega) (by omega) (by omega) (by omega)
section
variable (a b f : Int)
theorem words1 : bits .or .u16 (arithV 1 (a % 65536 / 256) (b % 65536 / 256) (arithF 0 (a % 256) (b % 256) 0) % 65536 * 256 % 65536) (arithV 0 (a % 256) (b % 256) 0 % 65536) = (a + b) % 65536 := by
  rw [join16 _ _ (by rw [aV1]; omega) (by rw [aV1]; omega) (by rw [aV0]; omega) (by rw [aV0]; omega), aV1, aV0, aF0, flc]
  rcases bi_cases (255 < a % 256 + b % 256 + 0) 1 with ⟨h, e⟩ | ⟨h, e⟩ <;> rw [e] <;> omega
theorem words2 : bits .and .u8 (flagsV (f % 256 / 128 == 1) false (decide (4095 < a % 4096 + b % 4096)) (decide (65535 < a % 65536 + b % 65536))) 48 = bits .and .u8 (arithF 1 (a % 65536 / 256) (b % 65536 / 256) (arithF 0 (a % 256) (b % 256) 0)) 48 := by
  rw [aF1, fl48, fl48, aF0, flc]
  rcases bi_cases (255 < a % 256 + b % 256 + 0) 1 with ⟨h, e⟩ | ⟨h, e⟩ <;> rw [e]
  all_goals refine congr (congrArg HAdd.hAdd (bi_same ?_ 32)) (bi_same ?_ 16) <;> omega
theorem words3 : bits .and .u8 (flagsV (f % 256 / 128 == 1) false (decide (4095 < a % 4096 + b % 4096)) (decide (65535 < a % 65536 + b % 65536))) 128 = bits .and .u8 (f % 256) 128 := by
  rw [fl128, and128 (f % 256) (by omega) (by omega)]
  rcases (show f % 256 / 128 = 0 ∨ f % 256 / 128 = 1 by omega) with h | h <;> simp [bi, h]
theorem words4 : bits .and .u8 (flagsV (f % 256 / 128 == 1) false (decide (4095 < a % 4096 + b % 4096)) (decide (65535 < a % 65536 + b % 65536))) 79 = 0 := by
  rw [fl79]; rfl
theorem words5 : arithV 2 (arithV 0 (a % 256) (b % 256) 0) (b % 256) 0 = a % 256 := back1 (a % 256) (b % 256) (by omega) (by omega) (by omega) (by omega)
theorem words6 : arithV 3 (arithV 1 (a % 65536 / 256) (b % 65536 / 256) (arithF 0 (a % 256) (b % 256) 0)) (b % 65536 / 256) (arithF 2 (arithV 0 (a % 256) (b % 256) 0) (b % 256) 0) = a % 65536 / 256 := by
  rw [aV3, aV1, aV0, aF0, aF2, flc, flc]
  rw [bi_same (show (a % 256 + b % 256 + 0) % 256 - b % 256 - 0 < 0 ↔ 255 < a % 256 + b % 256 + 0 by omega)]
  rcases bi_cases (255 < a % 256 + b % 256 + 0) 1 with ⟨h, e⟩ | ⟨h, e⟩ <;> rw [e] <;> omega
theorem words7 : bits .and .u8 (arithF 3 (arithV 1 (a % 65536 / 256) (b % 65536 / 256) (arithF 0 (a % 256) (b % 256) 0)) (b % 65536 / 256) (arithF 2 (arithV 0 (a % 256) (b % 256) 0) (b % 256) 0)) 16 = bits .and .u8 (arithF 1 (a % 65536 / 256) (b % 65536 / 256) (arithF 0 (a % 256) (b % 256) 0)) 16 := by
  rw [aF3, aF1, aV1, aV0, aF0, aF2, flc, flc, fl16, fl16]
  rw [bi_same (show (a % 256 + b % 256 + 0) % 256 - b % 256 - 0 < 0 ↔ 255 < a % 256 + b % 256 + 0 by omega)]
  rcases bi_cases (255 < a % 256 + b % 256 + 0) 1 with ⟨h, e⟩ | ⟨h, e⟩ <;> rw [e] <;> exact bi_same (by omega) _
theorem offset2 (h : 127 < f % 256) : arithV 0 (a % 256) (f % 256) 0 = (a + (f % 256 - 256)) % 256 := by rw [aV0]; omega
theorem offset2' : arithV 0 (a % 256) (f % 256) 0 = (a + f) % 256 := by rw [aV0]; omega
theorem offset3 : bits .and .u8 (arithF 0 (a % 256) (f % 256) 0) 48 = flagsV false false (decide (15 < a % 16 + f % 16)) (decide (255 < a % 256 + f % 256)) := by
  rw [aF0, fl48]
  rw [dec_iff (show 15 < a % 256 % 16 + f % 256 % 16 + 0 ↔ 15 < a % 16 + f % 16 by omega), dec_iff (show 255 < a % 256 + f % 256 + 0 ↔ 255 < a % 256 + f % 256 by omega)]
  cases decide (15 < a % 16 + f % 16) <;> cases decide (255 < a % 256 + f % 256) <;> rfl
end
/-! steps -/
def pickV (c n : Int) : Int := if c < 0 then (-(c + 1)) % n else c % n
theorem pick_bd (c n : Int) (h : 0 < n) : 0 ≤ pickV c n ∧ pickV c n < n := by
  unfold pickV
  have h1 := Int.emod_nonneg (-(c + 1)) (show n ≠ 0 by omega)
  have h2 := Int.emod_lt_of_pos (-(c + 1)) h
  have h3 := Int.emod_nonneg c (show n ≠ 0 by omega)
  have h4 := Int.emod_lt_of_pos c h
  split <;> omega
theorem sV0 (a f : Int) : stepV 0 a f = (a + 1) % 256 := rfl
theorem sV1 (a f : Int) : stepV 1 a f = (a - 1) % 256 := rfl
theorem sF0 (a f : Int) : stepF 0 a f = flagsV ((a + 1) % 256 == 0) false ((a + 1) % 16 == 0) (f / 16 % 2 == 1) := rfl
theorem sF1 (a f : Int) : stepF 1 a f = flagsV ((a - 1) % 256 == 0) true ((a - 1) % 16 == 15) (f / 16 % 2 == 1) := rfl
theorem sV2 (op a f : Int) (h : 2 ≤ op) : stepV op a f = a := by unfold stepV; rw [if_neg (by omega), if_neg (by omega)]
theorem sF2 (op a f : Int) (h : 2 ≤ op) : stepF op a f = f / 16 * 16 := by unfold stepF; rw [if_neg (by omega), if_neg (by omega)]
theorem beq_iff' {a b c d : Int} (h : a = b ↔ c = d) : (a == b) = (c == d) := by
  rw [Bool.eq_iff_iff]; simp [h]
section
variable (x f : Int) (x0 : 0 ≤ x) (x1 : x ≤ 255) (f0 : 0 ≤ f) (f1 : f ≤ 255)
include x0 x1 f0 f1
theorem steps1 : stepV 1 (stepV 0 x f) (stepF 0 x f) = x := by rw [sV1, sV0]; omega
theorem steps2 : bits .and .u8 (stepF 1 (stepV 0 x f) (stepF 0 x f)) 16 = bits .and .u8 f 16 := by
  rw [sF1, sF0, flc, fl16, and16 f f0 f1]
  rcases (show f / 16 % 2 = 0 ∨ f / 16 % 2 = 1 by omega) with h | h <;> rw [h] <;> rfl
theorem steps3 : bits .and .u8 (stepF 0 x f) 16 = bits .and .u8 f 16 := by
  rw [sF0, fl16, and16 f f0 f1]
  rcases (show f / 16 % 2 = 0 ∨ f / 16 % 2 = 1 by omega) with h | h <;> rw [h] <;> rfl
theorem steps4 : arithV 0 x 1 0 = stepV 0 x f := by rw [sV0, aV0]; omega
theorem steps5 : bits .and .u8 (stepF 0 x f) 224 = bits .and .u8 (arithF 0 x 1 0) 224 := by
  rw [sF0, aF0, fl224, fl224, beq_iff' (show (x + 1) % 256 = 0 ↔ (x + 1 + 0) % 256 = 0 by omega)]
  have h : ((x + 1) % 16 == 0) = decide (15 < x % 16 + 1 % 16 + 0) := by rw [Bool.eq_iff_iff]; simp; omega
  rw [h]
theorem steps6 : arithV 2 x 1 0 = stepV 1 x f := by rw [sV1, aV2]; omega
theorem steps7 : bits .and .u8 (stepF 1 x f) 224 = bits .and .u8 (arithF 2 x 1 0) 224 := by
  rw [sF1, aF2, fl224, fl224, beq_iff' (show (x - 1) % 256 = 0 ↔ (x - 1 - 0) % 256 = 0 by omega)]
  have h : ((x - 1) % 16 == 15) = decide (x % 16 < 1 % 16 + 0) := by rw [Bool.eq_iff_iff]; simp; omega
  rw [h]
theorem steps8 : bits .and .u8 (stepF 1 x f) 31 = bits .and .u8 f 16 := by
  rw [sF1, fl31, and16 f f0 f1]
  rcases (show f / 16 % 2 = 0 ∨ f / 16 % 2 = 1 by omega) with h | h <;> rw [h] <;> rfl
end
end Go.Proofs.YtpkogmcafgplgaaDoor.AluP
