import Derived.Test.YtpkogmcafgplgaaAluP
namespace Go.Proofs.Ytpkogmcafgplgaa.AluQ
open Go.RowKit Go.Proofs.Ytpkogmcafgplgaa.AluA Go.Proofs.Ytpkogmcafgplgaa.AluB Go.Proofs.Ytpkogmcafgplgaa.AluC Go.Proofs.Ytpkogmcafgplgaa.AluP
set_option linter.unusedVariables false
set_option linter.unusedSectionVars false
/-! decimal sums -/
def tenV (n : Int) : Int := n / 10 * 16 + n % 10
theorem flh (z n h c : Bool) : flagsV z n h c / 32 % 2 = bi h 1 := by cases z <;> cases n <;> cases h <;> cases c <;> decide
theorem fln (z n h c : Bool) : flagsV z n h c / 64 % 2 = bi n 1 := by cases z <;> cases n <;> cases h <;> cases c <;> decide
theorem bi_f (n : Int) : bi false n = 0 := rfl
theorem bi_t (n : Int) : bi true n = n := rfl
theorem ten_split (p q : Int) (h : 0 ≤ q) (h' : q ≤ 9) : tenV (10 * p + q) = 16 * p + q := by unfold tenV; omega
theorem sixteen (d : Int) (d0 : 0 ≤ d) (d1 : d ≤ 1) : 16 * d / 16 % 2 = d := by omega
section
variable (p q r s d : Int) (p0 : 0 ≤ p) (p1 : p ≤ 9) (q0 : 0 ≤ q) (q1 : q ≤ 9) (r0 : 0 ≤ r) (r1 : r ≤ 9) (s0 : 0 ≤ s) (s1 : s ≤ 9) (d0 : 0 ≤ d) (d1 : d ≤ 1)
include p0 p1 q0 q1 r0 r1 s0 s1 d0 d1
theorem dsum : decV (arithV 1 (16 * p + q) (16 * r + s) (16 * d)) (arithF 1 (16 * p + q) (16 * r + s) (16 * d)) = tenV ((10 * p + q + (10 * r + s) + d) % 100) ∧
    decC (arithV 1 (16 * p + q) (16 * r + s) (16 * d)) (arithF 1 (16 * p + q) (16 * r + s) (16 * d)) = decide (99 < 10 * p + q + (10 * r + s) + d) := by
  have e3 : (16 * p + q) % 16 = q := by omega
  have e4 : (16 * r + s) % 16 = s := by omega
  unfold decV decBy decC
  rw [aF1, flc, flh, fln, aV1, bi_f, sixteen d d0 d1, e3, e4]
  -- the units' carry c, and the tens'
  have hu : ∃ c u : Int, q + s + d = 10 * c + u ∧ 0 ≤ u ∧ u ≤ 9 ∧ 0 ≤ c ∧ c ≤ 1 := ⟨(q + s + d) / 10, (q + s + d) % 10, by omega, by omega, by omega, by omega, by omega⟩
  obtain ⟨c, u, hu, u0, u1, c0, c1⟩ := hu
  have ht : ∃ k t : Int, p + r + c = 10 * k + t ∧ 0 ≤ t ∧ t ≤ 9 ∧ 0 ≤ k ∧ k ≤ 1 := ⟨(p + r + c) / 10, (p + r + c) % 10, by omega, by omega, by omega, by omega, by omega⟩
  obtain ⟨k, t, ht, t0, t1, k0, k1⟩ := ht
  have hS : (10 * p + q + (10 * r + s) + d) % 100 = 10 * t + u := by omega
  rw [hS, ten_split t u u0 u1]
  have hd : decide (99 < 10 * p + q + (10 * r + s) + d) = decide (k = 1) := dec_iff (by omega)
  rw [hd]
  have hc : c = 0 ∨ c = 1 := by omega
  have hk : k = 0 ∨ k = 1 := by omega
  generalize hT : 16 * p + q + (16 * r + s) + d = T
  have hm : (T ≤ 255 ∧ T % 256 = T) ∨ (255 < T ∧ T % 256 = T - 256) := by omega
  have hl : (q + s + d ≤ 15 ∧ T % 256 % 16 = q + s + d) ∨ (15 < q + s + d ∧ T % 256 % 16 = q + s + d - 16) := by omega
  generalize T % 256 % 16 = L at *
  generalize T % 256 = m at *
  clear e3 e4 hS hd
  rcases bi_cases (15 < q + s + d) 1 with ⟨h, e⟩ | ⟨h, e⟩ <;> rw [e] <;>
  rcases bi_cases (255 < T) 1 with ⟨g, e'⟩ | ⟨g, e'⟩ <;> rw [e'] <;>
  rcases hc with rfl | rfl <;> rcases hk with rfl | rfl
  all_goals first | (exfalso; omega) | skip
  all_goals
    constructor
    · rw [if_neg (by decide)]
      (repeat' split) <;> omega
    · exact dec_iff (by omega)
theorem ddif : decV (arithV 3 (16 * p + q) (16 * r + s) (16 * d)) (arithF 3 (16 * p + q) (16 * r + s) (16 * d)) = tenV ((10 * p + q - (10 * r + s) - d + 200) % 100) ∧
    decC (arithV 3 (16 * p + q) (16 * r + s) (16 * d)) (arithF 3 (16 * p + q) (16 * r + s) (16 * d)) = decide (10 * p + q - (10 * r + s) - d < 0) := by
  have e3 : (16 * p + q) % 16 = q := by omega
  have e4 : (16 * r + s) % 16 = s := by omega
  unfold decV decBy decC
  rw [aF3, flc, flh, fln, aV3, bi_t, sixteen d d0 d1, e3, e4]
  have hu : ∃ c u : Int, q - s - d = u - 10 * c ∧ 0 ≤ u ∧ u ≤ 9 ∧ 0 ≤ c ∧ c ≤ 1 := ⟨-((q - s - d) / 10), (q - s - d) % 10, by omega, by omega, by omega, by omega, by omega⟩
  obtain ⟨c, u, hu, u0, u1, c0, c1⟩ := hu
  have ht : ∃ k t : Int, p - r - c = t - 10 * k ∧ 0 ≤ t ∧ t ≤ 9 ∧ 0 ≤ k ∧ k ≤ 1 := ⟨-((p - r - c) / 10), (p - r - c) % 10, by omega, by omega, by omega, by omega, by omega⟩
  obtain ⟨k, t, ht, t0, t1, k0, k1⟩ := ht
  have hS : (10 * p + q - (10 * r + s) - d + 200) % 100 = 10 * t + u := by omega
  rw [hS, ten_split t u u0 u1]
  have hd : decide (10 * p + q - (10 * r + s) - d < 0) = decide (k = 1) := dec_iff (by omega)
  rw [hd]
  have hc : c = 0 ∨ c = 1 := by omega
  have hk : k = 0 ∨ k = 1 := by omega
  generalize hT : 16 * p + q - (16 * r + s) - d = T
  have hm : (0 ≤ T ∧ T % 256 = T) ∨ (T < 0 ∧ T % 256 = T + 256) := by omega
  generalize T % 256 % 16 = L at *
  generalize T % 256 = m at *
  clear e3 e4 hS hd
  rcases bi_cases (q < s + d) 1 with ⟨h, e⟩ | ⟨h, e⟩ <;> rw [e] <;>
  rcases bi_cases (T < 0) 1 with ⟨g, e'⟩ | ⟨g, e'⟩ <;> rw [e'] <;>
  rcases hc with rfl | rfl <;> rcases hk with rfl | rfl
  all_goals first | (exfalso; omega) | skip
  all_goals
    constructor
    · rw [if_pos (by decide)]
      (repeat' split) <;> omega
    · exact dec_iff (by omega)
end
section
variable (x y d : Int) (h0 : 0 ≤ x) (h1 : x < 100) (g0 : 0 ≤ y) (g1 : y < 100) (d0 : 0 ≤ d) (d1 : d ≤ 1)
include h0 h1 g0 g1 d0 d1
theorem dec_sum : decV (arithV 1 (tenV x) (tenV y) (16 * d)) (arithF 1 (tenV x) (tenV y) (16 * d)) = tenV ((x + y + d) % 100) ∧
    decC (arithV 1 (tenV x) (tenV y) (16 * d)) (arithF 1 (tenV x) (tenV y) (16 * d)) = decide (99 < x + y + d) := by
  have h := dsum (x / 10) (x % 10) (y / 10) (y % 10) d (by omega) (by omega) (by omega) (by omega) (by omega) (by omega) (by omega) (by omega) d0 d1
  rw [← ten_split (x / 10) (x % 10) (by omega) (by omega), ← ten_split (y / 10) (y % 10) (by omega) (by omega)] at h
  rw [show 10 * (x / 10) + x % 10 = x by omega, show 10 * (y / 10) + y % 10 = y by omega] at h
  exact h
theorem dec_dif : decV (arithV 3 (tenV x) (tenV y) (16 * d)) (arithF 3 (tenV x) (tenV y) (16 * d)) = tenV ((x - y - d + 200) % 100) ∧
    decC (arithV 3 (tenV x) (tenV y) (16 * d)) (arithF 3 (tenV x) (tenV y) (16 * d)) = decide (x - y - d < 0) := by
  have h := ddif (x / 10) (x % 10) (y / 10) (y % 10) d (by omega) (by omega) (by omega) (by omega) (by omega) (by omega) (by omega) (by omega) d0 d1
  rw [← ten_split (x / 10) (x % 10) (by omega) (by omega), ← ten_split (y / 10) (y % 10) (by omega) (by omega)] at h
  rw [show 10 * (x / 10) + x % 10 = x by omega, show 10 * (y / 10) + y % 10 = y by omega] at h
  exact h
end
/-! bits go round: 256 x 16 cases, by the kernel -/
def itU : Nat → Int → Int
  | 0, x => x
  | k + 1, x => shiftV 0 (itU k x) 0
def itV : Nat → Int → Int
  | 0, x => x
  | k + 1, x => shiftV 1 (itV k x) 240
def itW : Nat → Int → Int → Int × Int
  | 0, x, c => (x, c)
  | k + 1, x, c => (shiftV 2 (itW k x c).1 (itW k x c).2, shiftF 2 (itW k x c).1 (itW k x c).2)
def itWT : Nat → Int × Int → Int × Int
  | 0, p => p
  | k + 1, p => itWT k (shiftV 2 p.1 p.2, shiftF 2 p.1 p.2)
theorem itWT_snoc (k : Nat) : ∀ p : Int × Int, itWT (k + 1) p = (shiftV 2 (itWT k p).1 (itWT k p).2, shiftF 2 (itWT k p).1 (itWT k p).2) := by
  induction k with
  | zero => intro p; rfl
  | succ k ih => intro p; exact ih _
theorem itW_eq (k : Nat) (x c : Int) : itW k x c = itWT k (x, c) := by
  induction k with
  | zero => rfl
  | succ k ih => rw [itWT_snoc, ← ih]; rfl
theorem itU_8 : ∀ x : Int, 0 ≤ x → x ≤ 255 → itU 8 x = x := of_fin (by decide +kernel)
theorem itV_8 : ∀ x : Int, 0 ≤ x → x ≤ 255 → itV 8 x = x := of_fin (by decide +kernel)
def wOk (x c : Int) : Bool := let p := itWT 9 (x, c); p.1 == x && bits .and .u8 p.2 16 == bits .and .u8 c 16
theorem w_fin : ∀ x : Fin 256, ∀ k : Fin 16, wOk (x.val : Int) ((k.val : Int) * 16) = true := by decide +kernel
def roundOk (x c : Int) : Bool :=
  shiftV 1 (shiftV 0 x c) c == x && shiftV 3 (shiftV 2 x c) (shiftF 2 x c) == x && bits .and .u8 (shiftF 3 (shiftV 2 x c) (shiftF 2 x c)) 16 == bits .and .u8 c 16 &&
  shiftV 6 (shiftV 6 x c) c == x && bits .or .u8 (x * 16 % 256) (x / 16) == shiftV 6 x c && turnV 5 (turnV 5 x c) (turnF 5 x c) == x && bits .xor .u8 255 x == turnV 5 x c &&
  bits .and .u8 (turnF 7 x (turnF 7 x c)) 144 == bits .and .u8 c 144 && bits .and .u8 (turnF 7 x c) 16 != bits .and .u8 c 16 &&
  arithV 0 x x 0 == shiftV 4 x c && bits .and .u8 (shiftF 4 x c) 144 == bits .and .u8 (arithF 0 x x 0) 144 && shiftV 7 x c == x / 2 && bits .or .u8 (x / 2) (bits .and .u8 x 128) == shiftV 5 x c
theorem round_fin : ∀ x : Fin 256, ∀ k : Fin 16, roundOk (x.val : Int) ((k.val : Int) * 16) = true := by decide +kernel
theorem round_all (x f : Int) (h0 : 0 ≤ x) (h1 : x ≤ 255) (g0 : 0 ≤ f) (g1 : f ≤ 255) : roundOk x (f / 16 * 16) = true ∧ wOk x (f / 16 * 16) = true := by
  obtain ⟨n, rfl⟩ := Int.eq_ofNat_of_zero_le h0
  obtain ⟨m, hm⟩ := Int.eq_ofNat_of_zero_le (show 0 ≤ f / 16 by omega)
  rw [hm]
  exact ⟨round_fin ⟨n, by omega⟩ ⟨m, by omega⟩, w_fin ⟨n, by omega⟩ ⟨m, by omega⟩⟩
end Go.Proofs.Ytpkogmcafgplgaa.AluQ
