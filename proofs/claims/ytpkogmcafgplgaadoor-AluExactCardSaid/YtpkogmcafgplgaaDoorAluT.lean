import Derived.Test.YtpkogmcafgplgaaDoorAluP
import Derived.Test.YtpkogmcafgplgaaDoorWWords
namespace Go.Proofs.YtpkogmcafgplgaaDoor.AluT
open Go.RowKit Go.Proofs.YtpkogmcafgplgaaDoor.AluA Go.Proofs.YtpkogmcafgplgaaDoor.AluP Go.Proofs.YtpkogmcafgplgaaDoorW.PrintWords
set_option linter.unusedVariables false
set_option linter.unusedSectionVars false
set_option linter.unusedSimpArgs false
/-! rows of bits, the lowest first: numbers, sums column by column: no program in sight -/
def bitsL : Nat → Int → List Bool
  | 0, _ => []
  | n + 1, v => (v % 2 == 1) :: bitsL n (v / 2)
def numL : List Bool → Int
  | [] => 0
  | b :: l => 2 * numL l + bi b 1
def addL : List Bool → List Bool → Bool → List Bool × List Bool
  | a :: x, b :: y, c => (((bi a 1 + bi b 1 + bi c 1) % 2 == 1) :: (addL x y (decide (bi a 1 + bi b 1 + bi c 1 > 1))).1, decide (bi a 1 + bi b 1 + bi c 1 > 1) :: (addL x y (decide (bi a 1 + bi b 1 + bi c 1 > 1))).2)
  | _, _, _ => ([], [])
def subL : List Bool → List Bool → Bool → List Bool × List Bool
  | a :: x, b :: y, c => (((bi a 1 - bi b 1 - bi c 1) % 2 == 1) :: (subL x y (decide (bi a 1 - bi b 1 - bi c 1 < 0))).1, decide (bi a 1 - bi b 1 - bi c 1 < 0) :: (subL x y (decide (bi a 1 - bi b 1 - bi c 1 < 0))).2)
  | _, _, _ => ([], [])
def mapL (g : Bool → Bool → Bool) : List Bool → List Bool → List Bool
  | a :: x, b :: y => g a b :: mapL g x y
  | _, _ => []
theorem bi_bd (b : Bool) : 0 ≤ bi b 1 ∧ bi b 1 ≤ 1 := by cases b <;> decide
theorem bi_beq (n : Int) (h0 : 0 ≤ n) (h1 : n ≤ 1) : bi (n == 1) 1 = n := by
  rcases (show n = 0 ∨ n = 1 by omega) with rfl | rfl <;> rfl
theorem len_bitsL (n : Nat) : ∀ v, (bitsL n v).length = n := by
  induction n with
  | zero => intro v; rfl
  | succ n ih => intro v; simp [bitsL, ih]
theorem num_bitsL (n : Nat) : ∀ v : Int, 0 ≤ v → numL (bitsL n v) = v % 2 ^ n := by
  induction n with
  | zero => intro v h; simp [bitsL, numL]
  | succ n ih =>
    intro v h
    rw [bitsL, numL, ih (v / 2) (by omega), bi_beq _ (by omega) (by omega)]
    have hp : (0 : Int) < 2 ^ n := Int.pow_pos (by decide)
    have e : (2 : Int) ^ (n + 1) = 2 ^ n * 2 := Int.pow_succ 2 n
    rw [e]
    generalize (2 : Int) ^ n = p at hp
    have h1 : v % (p * 2) = 2 * ((v / 2) % p) + v % 2 := by
      have h2 := Int.emod_add_mul_ediv (v / 2) p
      have h3 : v / 2 / p = v / (p * 2) := by rw [Int.ediv_ediv_of_nonneg (by decide), Int.mul_comm]
      have h4 := Int.emod_add_mul_ediv v (p * 2)
      rw [h3] at h2
      have h5 : p * 2 * (v / (p * 2)) = 2 * (p * (v / (p * 2))) := by rw [Int.mul_comm p 2, Int.mul_assoc]
      omega
    omega
theorem take_bitsL (n : Nat) : ∀ (m : Nat) (v : Int), m ≤ n → (bitsL n v).take m = bitsL m v := by
  induction n with
  | zero =>
    intro m v h
    obtain rfl : m = 0 := by omega
    rfl
  | succ n ih =>
    intro m v h
    cases m with
    | zero => rfl
    | succ m => rw [bitsL, bitsL, List.take_succ_cons, ih m _ (by omega)]
theorem numL_bd (l : List Bool) : 0 ≤ numL l ∧ numL l < 2 ^ l.length := by
  induction l with
  | nil => simp [numL]
  | cons b l ih =>
    have := bi_bd b
    rw [numL, List.length_cons, Int.pow_succ]
    omega
theorem len_addL : ∀ (x y : List Bool) (c : Bool), x.length = y.length → (addL x y c).1.length = x.length ∧ (addL x y c).2.length = x.length := by
  intro x
  induction x with
  | nil => intro y c h; simp [addL]
  | cons a x ih =>
    intro y c h
    cases y with
    | nil => simp at h
    | cons b y => simp [addL, ih y _ (by simpa using h)]
theorem num_addL : ∀ (x y : List Bool) (c : Bool), x.length = y.length → numL (addL x y c).1 = (numL x + numL y + bi c 1) % 2 ^ x.length := by
  intro x
  induction x with
  | nil =>
    intro y c h
    obtain rfl : y = [] := List.length_eq_zero_iff.1 (by simpa using h.symm)
    simp [addL, numL]
  | cons a x ih =>
    intro y c h
    cases y with
    | nil => simp at h
    | cons b y =>
      have ha := bi_bd a
      have hb := bi_bd b
      have hc := bi_bd c
      rw [addL]
      simp only []
      rw [numL, ih y _ (by simpa using h), numL, numL, List.length_cons]
      generalize hn : bi a 1 + bi b 1 + bi c 1 = n
      rw [bi_beq _ (by omega) (by omega)]
      have hk : bi (decide (n > 1)) 1 = n / 2 := by
        rcases bi_cases (n > 1) 1 with ⟨g, e⟩ | ⟨g, e⟩ <;> rw [e] <;> omega
      rw [hk]
      have hp : (0 : Int) < 2 ^ x.length := Int.pow_pos (by decide)
      have e : (2 : Int) ^ (x.length + 1) = 2 ^ x.length * 2 := Int.pow_succ 2 _
      rw [e]
      generalize (2 : Int) ^ x.length = p at hp
      have hz : 2 * numL x + bi a 1 + (2 * numL y + bi b 1) + bi c 1 = 2 * (numL x + numL y + n / 2) + n % 2 := by omega
      rw [hz]
      generalize numL x + numL y + n / 2 = z
      have h2 := Int.emod_add_mul_ediv z p
      have h3 := Int.emod_nonneg z (show p ≠ 0 by omega)
      have h4 := Int.emod_lt_of_pos z hp
      have h6 : 2 * z + n % 2 = 2 * (z % p) + n % 2 + p * 2 * (z / p) := by
        have h5 : p * 2 * (z / p) = 2 * (p * (z / p)) := by rw [Int.mul_comm p 2, Int.mul_assoc]
        omega
      have h7 : (2 * z + n % 2) % (p * 2) = 2 * (z % p) + n % 2 := by
        rw [h6, Int.add_mul_emod_self_left]
        exact Int.emod_eq_of_lt (by omega) (by omega)
      rw [h7]
theorem carry_addL : ∀ (x y : List Bool) (c : Bool) (i : Nat), x.length = y.length → i < x.length →
    (addL x y c).2.getD i false = decide (2 ^ (i + 1) ≤ numL (x.take (i + 1)) + numL (y.take (i + 1)) + bi c 1) := by
  intro x
  induction x with
  | nil => intro y c i h hi; simp at hi
  | cons a x ih =>
    intro y c i h hi
    cases y with
    | nil => simp at h
    | cons b y =>
      have ha := bi_bd a
      have hb := bi_bd b
      have hc := bi_bd c
      rw [addL]
      cases i with
      | zero =>
        simp only [List.getD_cons_zero, Nat.zero_add, List.take_succ_cons, List.take_zero, numL]
        exact dec_iff (by omega)
      | succ i =>
        simp only [List.getD_cons_succ]
        rw [ih y _ i (by simpa using h) (by simpa using hi)]
        simp only [List.take_succ_cons, numL]
        generalize numL (List.take i x) = X'
        have e : (2 : Int) ^ (i + 1 + 1) = 2 ^ (i + 1) * 2 := Int.pow_succ 2 _
        rw [e]
        generalize numL (List.take (i + 1) x) = X
        generalize numL (List.take (i + 1) y) = Y
        generalize (2 : Int) ^ (i + 1) = p
        have hk : bi (decide (bi a 1 + bi b 1 + bi c 1 > 1)) 1 = (bi a 1 + bi b 1 + bi c 1) / 2 := by
          rcases bi_cases (bi a 1 + bi b 1 + bi c 1 > 1) 1 with ⟨g, e⟩ | ⟨g, e⟩ <;> rw [e] <;> omega
        rw [hk]
        exact dec_iff (by omega)
theorem len_subL : ∀ (x y : List Bool) (c : Bool), x.length = y.length → (subL x y c).1.length = x.length ∧ (subL x y c).2.length = x.length := by
  intro x
  induction x with
  | nil => intro y c h; simp [subL]
  | cons a x ih =>
    intro y c h
    cases y with
    | nil => simp at h
    | cons b y => simp [subL, ih y _ (by simpa using h)]
theorem num_subL : ∀ (x y : List Bool) (c : Bool), x.length = y.length → numL (subL x y c).1 = (numL x - numL y - bi c 1) % 2 ^ x.length := by
  intro x
  induction x with
  | nil =>
    intro y c h
    obtain rfl : y = [] := List.length_eq_zero_iff.1 (by simpa using h.symm)
    simp [subL, numL]
  | cons a x ih =>
    intro y c h
    cases y with
    | nil => simp at h
    | cons b y =>
      have ha := bi_bd a
      have hb := bi_bd b
      have hc := bi_bd c
      rw [subL]
      simp only []
      rw [numL, ih y _ (by simpa using h), numL, numL, List.length_cons]
      generalize hn : bi a 1 - bi b 1 - bi c 1 = n
      rw [bi_beq _ (by omega) (by omega)]
      have hk : bi (decide (n < 0)) 1 = - (n / 2) := by
        rcases bi_cases (n < 0) 1 with ⟨g, e⟩ | ⟨g, e⟩ <;> rw [e] <;> omega
      rw [hk]
      have hp : (0 : Int) < 2 ^ x.length := Int.pow_pos (by decide)
      have e : (2 : Int) ^ (x.length + 1) = 2 ^ x.length * 2 := Int.pow_succ 2 _
      rw [e]
      generalize (2 : Int) ^ x.length = p at hp
      have hz : 2 * numL x + bi a 1 - (2 * numL y + bi b 1) - bi c 1 = 2 * (numL x - numL y - -(n / 2)) + n % 2 := by omega
      rw [hz]
      generalize numL x - numL y - -(n / 2) = z
      have h2 := Int.emod_add_mul_ediv z p
      have h3 := Int.emod_nonneg z (show p ≠ 0 by omega)
      have h4 := Int.emod_lt_of_pos z hp
      have h6 : 2 * z + n % 2 = 2 * (z % p) + n % 2 + p * 2 * (z / p) := by
        have h5 : p * 2 * (z / p) = 2 * (p * (z / p)) := by rw [Int.mul_comm p 2, Int.mul_assoc]
        omega
      have h7 : (2 * z + n % 2) % (p * 2) = 2 * (z % p) + n % 2 := by
        rw [h6, Int.add_mul_emod_self_left]
        exact Int.emod_eq_of_lt (by omega) (by omega)
      rw [h7]
theorem borrow_subL : ∀ (x y : List Bool) (c : Bool) (i : Nat), x.length = y.length → i < x.length →
    (subL x y c).2.getD i false = decide (numL (x.take (i + 1)) < numL (y.take (i + 1)) + bi c 1) := by
  intro x
  induction x with
  | nil => intro y c i h hi; simp at hi
  | cons a x ih =>
    intro y c i h hi
    cases y with
    | nil => simp at h
    | cons b y =>
      have ha := bi_bd a
      have hb := bi_bd b
      have hc := bi_bd c
      rw [subL]
      cases i with
      | zero =>
        simp only [List.getD_cons_zero, Nat.zero_add, List.take_succ_cons, List.take_zero, numL]
        exact dec_iff (by omega)
      | succ i =>
        simp only [List.getD_cons_succ]
        rw [ih y _ i (by simpa using h) (by simpa using hi)]
        simp only [List.take_succ_cons, numL]
        generalize numL (List.take (i + 1) x) = X
        generalize numL (List.take (i + 1) y) = Y
        have hk : bi (decide (bi a 1 - bi b 1 - bi c 1 < 0)) 1 = - ((bi a 1 - bi b 1 - bi c 1) / 2) := by
          rcases bi_cases (bi a 1 - bi b 1 - bi c 1 < 0) 1 with ⟨g, e⟩ | ⟨g, e⟩ <;> rw [e] <;> omega
        rw [hk]
        exact dec_iff (by omega)
theorem len_mapL (g : Bool → Bool → Bool) : ∀ (x y : List Bool), x.length = y.length → (mapL g x y).length = x.length := by
  intro x
  induction x with
  | nil => intro y h; simp [mapL]
  | cons a x ih =>
    intro y h
    cases y with
    | nil => simp at h
    | cons b y => simp [mapL, ih y (by simpa using h)]
theorem numL_bits_map (g : Bool → Bool → Bool) (G : Nat → Nat → Nat) (h2 : ∀ a b, G a b / 2 = G (a / 2) (b / 2)) (hm : ∀ a b : Nat, bi (g ((a : Int) % 2 == 1) ((b : Int) % 2 == 1)) 1 = ((G a b % 2 : Nat) : Int)) (h0 : G 0 0 = 0) (n : Nat) :
    ∀ a b : Nat, a < 2 ^ n → b < 2 ^ n → numL (mapL g (bitsL n a) (bitsL n b)) = ((G a b : Nat) : Int) := by
  induction n with
  | zero =>
    intro a b ha hb
    obtain rfl : a = 0 := by simpa using ha
    obtain rfl : b = 0 := by simpa using hb
    rw [h0]
    rfl
  | succ n ih =>
    intro a b ha hb
    rw [bitsL, bitsL, mapL, numL]
    have e1 : (a : Int) / 2 = ((a / 2 : Nat) : Int) := rfl
    have e2 : (b : Int) / 2 = ((b / 2 : Nat) : Int) := rfl
    rw [e1, e2, ih (a / 2) (b / 2) (by rw [Nat.pow_succ] at ha; omega) (by rw [Nat.pow_succ] at hb; omega), ← h2, hm]
    omega
theorem mod2_cases (a : Nat) : ((a : Int) % 2 == 1) = (a % 2 == 1) := by
  rw [Bool.eq_iff_iff]; simp; omega
theorem map_and (n a b : Nat) (ha : a < 2 ^ n) (hb : b < 2 ^ n) : numL (mapL (fun p q => p && q) (bitsL n a) (bitsL n b)) = ((a &&& b : Nat) : Int) := by
  refine numL_bits_map _ (fun x y => x &&& y) (fun a b => ?_) (fun a b => ?_) rfl n a b ha hb
  · have := Nat.and_div_two_pow (a := a) (b := b) (n := 1); simpa using this
  · have := Nat.and_mod_two_pow (a := a) (b := b) (n := 1)
    simp only [Nat.pow_one] at this
    rw [mod2_cases, mod2_cases, this]
    rcases (show a % 2 = 0 ∨ a % 2 = 1 by omega) with h | h <;> rcases (show b % 2 = 0 ∨ b % 2 = 1 by omega) with k | k <;> rw [h, k] <;> rfl
theorem map_or (n a b : Nat) (ha : a < 2 ^ n) (hb : b < 2 ^ n) : numL (mapL (fun p q => p || q) (bitsL n a) (bitsL n b)) = ((a ||| b : Nat) : Int) := by
  refine numL_bits_map _ (fun x y => x ||| y) (fun a b => ?_) (fun a b => ?_) rfl n a b ha hb
  · have := Nat.or_div_two_pow (a := a) (b := b) (n := 1); simpa using this
  · have := Nat.or_mod_two_pow (a := a) (b := b) (n := 1)
    simp only [Nat.pow_one] at this
    rw [mod2_cases, mod2_cases, this]
    rcases (show a % 2 = 0 ∨ a % 2 = 1 by omega) with h | h <;> rcases (show b % 2 = 0 ∨ b % 2 = 1 by omega) with k | k <;> rw [h, k] <;> rfl
theorem map_xor (n a b : Nat) (ha : a < 2 ^ n) (hb : b < 2 ^ n) : numL (mapL (fun p q => p != q) (bitsL n a) (bitsL n b)) = ((a ^^^ b : Nat) : Int) := by
  refine numL_bits_map _ (fun x y => x ^^^ y) (fun a b => ?_) (fun a b => ?_) rfl n a b ha hb
  · have := Nat.xor_div_two_pow (a := a) (b := b) (n := 1); simpa using this
  · have := Nat.xor_mod_two_pow (a := a) (b := b) (n := 1)
    simp only [Nat.pow_one] at this
    rw [mod2_cases, mod2_cases, this]
    rcases (show a % 2 = 0 ∨ a % 2 = 1 by omega) with h | h <;> rcases (show b % 2 = 0 ∨ b % 2 = 1 by omega) with k | k <;> rw [h, k] <;> rfl
theorem and_nat (n m : Nat) (hn : n < 2 ^ 8) (hm : m < 2 ^ 8) : bits .and .u8 (n : Int) (m : Int) = ((n &&& m : Nat) : Int) := (bits_nat .u8 8 (by decide) wraps_u8 n m hn hm).1
theorem or_nat (n m : Nat) (hn : n < 2 ^ 8) (hm : m < 2 ^ 8) : bits .or .u8 (n : Int) (m : Int) = ((n ||| m : Nat) : Int) := (bits_nat .u8 8 (by decide) wraps_u8 n m hn hm).2
section
variable (a b : Int) (a0 : 0 ≤ a) (a1 : a ≤ 255) (b0 : 0 ≤ b) (b1 : b ≤ 255)
include a0 a1 b0 b1
theorem num_and : numL (mapL (fun p q => p && q) (bitsL 8 a) (bitsL 8 b)) = bits .and .u8 a b := by
  obtain ⟨n, rfl⟩ := Int.eq_ofNat_of_zero_le a0
  obtain ⟨m, rfl⟩ := Int.eq_ofNat_of_zero_le b0
  rw [and_nat n m (by omega) (by omega)]
  exact map_and 8 n m (by omega) (by omega)
theorem num_or : numL (mapL (fun p q => p || q) (bitsL 8 a) (bitsL 8 b)) = bits .or .u8 a b := by
  obtain ⟨n, rfl⟩ := Int.eq_ofNat_of_zero_le a0
  obtain ⟨m, rfl⟩ := Int.eq_ofNat_of_zero_le b0
  rw [or_nat n m (by omega) (by omega)]
  exact map_or 8 n m (by omega) (by omega)
theorem num_xor : numL (mapL (fun p q => p != q) (bitsL 8 a) (bitsL 8 b)) = bits .xor .u8 a b := by
  obtain ⟨n, rfl⟩ := Int.eq_ofNat_of_zero_le a0
  obtain ⟨m, rfl⟩ := Int.eq_ofNat_of_zero_le b0
  rw [xor_nat n m (by omega) (by omega)]
  exact map_xor 8 n m (by omega) (by omega)
theorem sum8 (q : Bool) : numL (addL (bitsL 8 a) (bitsL 8 b) q).1 = (a + b + bi q 1) % 256 := by
  have hq := bi_bd q
  rw [num_addL _ _ _ (by rw [len_bitsL, len_bitsL]), len_bitsL, num_bitsL 8 a a0, num_bitsL 8 b b0]
  simp only [show (2 : Int) ^ 8 = 256 from rfl]
  omega
theorem car8_3 (q : Bool) : (addL (bitsL 8 a) (bitsL 8 b) q).2.getD 3 false = decide (15 < a % 16 + b % 16 + bi q 1) := by
  rw [carry_addL _ _ _ 3 (by rw [len_bitsL, len_bitsL]) (by rw [len_bitsL]; omega), take_bitsL 8 4 a (by omega), take_bitsL 8 4 b (by omega), num_bitsL 4 a a0, num_bitsL 4 b b0]
  exact dec_iff (by simp only [show (2 : Int) ^ (3 + 1) = 16 from rfl, show (2 : Int) ^ 4 = 16 from rfl]; omega)
theorem car8_7 (q : Bool) : (addL (bitsL 8 a) (bitsL 8 b) q).2.getD 7 false = decide (255 < a + b + bi q 1) := by
  rw [carry_addL _ _ _ 7 (by rw [len_bitsL, len_bitsL]) (by rw [len_bitsL]; omega), take_bitsL 8 8 a (by omega), take_bitsL 8 8 b (by omega), num_bitsL 8 a a0, num_bitsL 8 b b0]
  exact dec_iff (by simp only [show (2 : Int) ^ (7 + 1) = 256 from rfl, show (2 : Int) ^ 8 = 256 from rfl]; omega)
theorem dif8 (q : Bool) : numL (subL (bitsL 8 a) (bitsL 8 b) q).1 = (a - b - bi q 1) % 256 := by
  have hq := bi_bd q
  rw [num_subL _ _ _ (by rw [len_bitsL, len_bitsL]), len_bitsL, num_bitsL 8 a a0, num_bitsL 8 b b0]
  simp only [show (2 : Int) ^ 8 = 256 from rfl]
  omega
theorem bor8_3 (q : Bool) : (subL (bitsL 8 a) (bitsL 8 b) q).2.getD 3 false = decide (a % 16 < b % 16 + bi q 1) := by
  rw [borrow_subL _ _ _ 3 (by rw [len_bitsL, len_bitsL]) (by rw [len_bitsL]; omega), take_bitsL 8 4 a (by omega), take_bitsL 8 4 b (by omega), num_bitsL 4 a a0, num_bitsL 4 b b0]
  exact dec_iff (by simp only [show (2 : Int) ^ 4 = 16 from rfl])
theorem bor8_7 (q : Bool) : (subL (bitsL 8 a) (bitsL 8 b) q).2.getD 7 false = decide (a - b - bi q 1 < 0) := by
  rw [borrow_subL _ _ _ 7 (by rw [len_bitsL, len_bitsL]) (by rw [len_bitsL]; omega), take_bitsL 8 8 a (by omega), take_bitsL 8 8 b (by omega), num_bitsL 8 a a0, num_bitsL 8 b b0]
  exact dec_iff (by simp only [show (2 : Int) ^ 8 = 256 from rfl]; omega)
end
theorem take_mapL (g : Bool → Bool → Bool) : ∀ (x y : List Bool) (k : Nat), x.length = y.length → k < x.length → (mapL g x y).take (k + 1) = (mapL g x y).take k ++ [g (x.getD k false) (y.getD k false)] := by
  intro x
  induction x with
  | nil => intro y k h hk; simp at hk
  | cons a x ih =>
    intro y k h hk
    cases y with
    | nil => simp at h
    | cons b y =>
      cases k with
      | zero => rfl
      | succ k =>
        rw [mapL, List.take_succ_cons, List.take_succ_cons, ih y k (by simpa using h) (by simpa using hk)]
        rfl
theorem drop_getD (l : List Bool) (i : Nat) (h : i < l.length) : l.drop i = l.getD i false :: l.drop (i + 1) := by
  rw [List.drop_eq_getElem_cons h]
  simp [List.getD, List.getElem?_eq_getElem h]
end Go.Proofs.YtpkogmcafgplgaaDoor.AluT
