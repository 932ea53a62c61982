import Derived.Test.YtpkogmcafgplgaaDoorAluT
import Derived.Test.YtpkogmcafgplgaaDoorPAluExactx1
import Derived.Test.YtpkogmcafgplgaaDoorPAluExactx2
namespace Go.Proofs.YtpkogmcafgplgaaDoor.AluU
open Go.RowKit Go.Proofs.YtpkogmcafgplgaaDoor.AluA Go.Proofs.YtpkogmcafgplgaaDoor.AluP Go.Proofs.YtpkogmcafgplgaaDoor.AluT Go.Proofs.YtpkogmcafgplgaaDoorW.PrintWords Go.Proofs.YtpkogmcafgplgaaDoor.PAluExact
set_option linter.unusedVariables false
/-! what the reference's printed functions answer, in plain words -/
theorem w64 (x : Int) (h0 : -9223372036854775808 ≤ x) (h1 : x ≤ 9223372036854775807) : wrap64 x = x := by unfold wrap64; omega
theorem bits_l (d : Nat) : ∀ (k : Nat) (v n i : Int) (acc : List Bool), 0 ≤ v → v ≤ 65535 → 0 ≤ i → n - i = d → n ≤ 16 → acc.length ≤ 16 - d → d ≤ 16 → d < k →
    arcaderef1_bits.l0 k v n acc i = some (acc ++ bitsL d v) := by
  induction d with
  | zero =>
    intro k v n i acc h0 h1 hi hd hn ha h16 hk
    obtain ⟨k, rfl⟩ : ∃ m, k = m + 1 := ⟨k - 1, by omega⟩
    simp only [arcaderef1_bits.l0]
    rw [if_neg (by omega)]
    simp [bitsL]
  | succ d ih =>
    intro k v n i acc h0 h1 hi hd hn ha h16 hk
    obtain ⟨k, rfl⟩ : ∃ m, k = m + 1 := ⟨k - 1, by omega⟩
    simp only [arcaderef1_bits.l0]
    rw [if_pos (by omega), if_pos (by omega), Int.tdiv_eq_ediv_of_nonneg h0, Int.tmod_eq_emod_of_nonneg h0, w64 (v / 2) (by omega) (by omega), w64 (i + 1) (by omega) (by omega)]
    rw [ih k (v / 2) n (i + 1) _ (by omega) (by omega) (by omega) (by omega) hn (by simp; omega) (by omega) (by omega)]
    simp [bitsL]
theorem bits_f (k : Nat) (v : Int) (n : Nat) (h0 : 0 ≤ v) (h1 : v ≤ 65535) (hn : n ≤ 16) (hk : n < k) : arcaderef1_bits.f k v (n : Int) = some (bitsL n v) := by
  unfold arcaderef1_bits.f
  rw [bits_l n k v n 0 [] h0 h1 (by omega) (by omega) (by omega) (by simp) (by omega) hk]
  rfl
theorem bits_f8 (k : Nat) (v : Int) (h0 : 0 ≤ v) (h1 : v ≤ 65535) (hk : 8 < k) : arcaderef1_bits.f k v 8 = some (bitsL 8 v) := bits_f k v 8 h0 h1 (by omega) hk
theorem bits_f16 (k : Nat) (v : Int) (h0 : 0 ≤ v) (h1 : v ≤ 65535) (hk : 16 < k) : arcaderef1_bits.f k v 16 = some (bitsL 16 v) := bits_f k v 16 h0 h1 (by omega) hk
theorem rdOf_nat (l : List Bool) (i : Nat) : rdOf false l (i : Int) = l.getD i false := rfl
theorem both_l (d : Nat) : ∀ (k : Nat) (x y : List Bool) (c : Bool) (s r : List Bool) (i : Nat), x.length = y.length → x.length ≤ 16 → i + d = x.length → s.length = i → r.length = i → 2 * d < k →
    arcaderef1_both.l0 k x y c s r (i : Int) = some (s ++ (addL (x.drop i) (y.drop i) c).1, r ++ (addL (x.drop i) (y.drop i) c).2) := by
  induction d with
  | zero =>
    intro k x y c s r i hxy hx hi hs hr hk
    obtain ⟨k, rfl⟩ : ∃ m, k = m + 1 := ⟨k - 1, by omega⟩
    simp only [arcaderef1_both.l0]
    rw [if_neg (by omega), List.drop_eq_nil_of_le (by omega)]
    simp [addL]
  | succ d ih =>
    intro k x y c s r i hxy hx hi hs hr hk
    obtain ⟨k, rfl⟩ : ∃ m, k = m + 1 + 1 := ⟨k - 2, by omega⟩
    simp only [arcaderef1_both.l0, arcaderef1_both.j1]
    rw [if_pos (by omega), if_pos (by omega), rdOf_nat, rdOf_nat]
    rw [drop_getD x i (by omega), drop_getD y i (by omega)]
    have hw : wrap64 ((i : Int) + 1) = ((i + 1 : Nat) : Int) := by rw [w64 _ (by omega) (by omega)]; rfl
    have key : ∀ (b q : Bool), arcaderef1_both.l0 k x y b (s ++ [q]) (r ++ [b]) ((i + 1 : Nat) : Int) = some (s ++ q :: (addL (x.drop (i + 1)) (y.drop (i + 1)) b).1, r ++ b :: (addL (x.drop (i + 1)) (y.drop (i + 1)) b).2) := by
      intro b q
      rw [ih k x y b (s ++ [q]) (r ++ [b]) (i + 1) hxy hx (by omega) (by simp; omega) (by simp; omega) (by omega)]
      simp
    rw [addL, hw]
    simp only [if_pos (show (0 : Int) ≤ (i : Int) by omega), if_pos (show (i : Int) < (y.length : Int) by omega), if_pos (show s.length < 140737488355328 by omega), if_pos (show r.length < 140737488355328 by omega), key]
    cases x.getD i false <;> cases y.getD i false <;> cases c <;> simp [bi, wrap64]
theorem both_f (k : Nat) (x y : List Bool) (c : Bool) (hxy : x.length = y.length) (hx : x.length ≤ 16) (hk : 40 ≤ k) : arcaderef1_both.f k x y c = some (addL x y c) := by
  unfold arcaderef1_both.f
  have := both_l x.length k x y c [] [] 0 hxy hx (by omega) rfl rfl (by omega)
  simpa using this
theorem less_l (d : Nat) : ∀ (k : Nat) (x y : List Bool) (c : Bool) (s r : List Bool) (i : Nat), x.length = y.length → x.length ≤ 16 → i + d = x.length → s.length = i → r.length = i → 2 * d < k →
    arcaderef1_less.l0 k x y c s r (i : Int) = some (s ++ (subL (x.drop i) (y.drop i) c).1, r ++ (subL (x.drop i) (y.drop i) c).2) := by
  induction d with
  | zero =>
    intro k x y c s r i hxy hx hi hs hr hk
    obtain ⟨k, rfl⟩ : ∃ m, k = m + 1 := ⟨k - 1, by omega⟩
    simp only [arcaderef1_less.l0]
    rw [if_neg (by omega), List.drop_eq_nil_of_le (by omega)]
    simp [subL]
  | succ d ih =>
    intro k x y c s r i hxy hx hi hs hr hk
    obtain ⟨k, rfl⟩ : ∃ m, k = m + 1 + 1 := ⟨k - 2, by omega⟩
    simp only [arcaderef1_less.l0, arcaderef1_less.j1]
    rw [if_pos (by omega), if_pos (by omega), rdOf_nat, rdOf_nat]
    rw [drop_getD x i (by omega), drop_getD y i (by omega)]
    have hw : wrap64 ((i : Int) + 1) = ((i + 1 : Nat) : Int) := by rw [w64 _ (by omega) (by omega)]; rfl
    have key : ∀ (b q : Bool), arcaderef1_less.l0 k x y b (s ++ [q]) (r ++ [b]) ((i + 1 : Nat) : Int) = some (s ++ q :: (subL (x.drop (i + 1)) (y.drop (i + 1)) b).1, r ++ b :: (subL (x.drop (i + 1)) (y.drop (i + 1)) b).2) := by
      intro b q
      rw [ih k x y b (s ++ [q]) (r ++ [b]) (i + 1) hxy hx (by omega) (by simp; omega) (by simp; omega) (by omega)]
      simp
    rw [subL, hw]
    simp only [if_pos (show (0 : Int) ≤ (i : Int) by omega), if_pos (show (i : Int) < (y.length : Int) by omega), if_pos (show s.length < 140737488355328 by omega), if_pos (show r.length < 140737488355328 by omega), key]
    cases x.getD i false <;> cases y.getD i false <;> cases c <;> simp [bi, wrap64]
theorem less_f (k : Nat) (x y : List Bool) (c : Bool) (hxy : x.length = y.length) (hx : x.length ≤ 16) (hk : 40 ≤ k) : arcaderef1_less.f k x y c = some (subL x y c) := by
  unfold arcaderef1_less.f
  have := less_l x.length k x y c [] [] 0 hxy hx (by omega) rfl rfl (by omega)
  simpa using this
theorem two_pow16 (l : List Bool) (h : l.length ≤ 16) : numL l < 65536 := by
  have h1 := (numL_bd l).2
  have h2 : (2 : Int) ^ l.length ≤ 2 ^ 16 := by
    have h3 : 2 ^ l.length ≤ 2 ^ 16 := Nat.pow_le_pow_right (by decide) h
    exact_mod_cast h3
  omega
theorem number_l (i : Nat) : ∀ (k : Nat) (x : List Bool), x.length ≤ 16 → i ≤ x.length → i < k →
    arcaderef1_number.l0 k x (numL (x.drop i)) ((i : Int) - 1) = some (numL x) := by
  induction i with
  | zero =>
    intro k x hx hi hk
    obtain ⟨k, rfl⟩ : ∃ m, k = m + 1 := ⟨k - 1, by omega⟩
    simp only [arcaderef1_number.l0]
    rw [if_neg (by omega)]
    rfl
  | succ i ih =>
    intro k x hx hi hk
    obtain ⟨k, rfl⟩ : ∃ m, k = m + 1 := ⟨k - 1, by omega⟩
    have hb := numL_bd (x.drop (i + 1))
    have hb2 := two_pow16 (x.drop (i + 1)) (by simp; omega)
    have e : ((i + 1 : Nat) : Int) - 1 = (i : Int) := by omega
    rw [e]
    simp only [arcaderef1_number.l0]
    rw [if_pos (by omega), if_pos (by omega), if_pos (by omega), rdOf_nat]
    have h1 : wrap64 (2 * numL (x.drop (i + 1))) = 2 * numL (x.drop (i + 1)) := w64 _ (by omega) (by omega)
    have h2 : wrap64 (2 * numL (x.drop (i + 1)) + 1) = 2 * numL (x.drop (i + 1)) + 1 := w64 _ (by omega) (by omega)
    have h3 : wrap64 ((i : Int) - 1) = (i : Int) - 1 := w64 _ (by omega) (by omega)
    rw [h1, h2, h3]
    have key := ih k x hx (by omega) (by omega)
    rw [drop_getD x i (by omega), numL] at key
    cases hq : x.getD i false
    · rw [hq] at key
      simp only [bi_f, Int.add_zero] at key
      simpa using key
    · rw [hq] at key
      simp only [bi_t] at key
      simpa using key
theorem number_f (k : Nat) (x : List Bool) (hx : x.length ≤ 16) (hk : 17 < k) : arcaderef1_number.f k x = some (numL x) := by
  unfold arcaderef1_number.f
  have := number_l x.length k x hx (by omega) (by omega)
  rw [List.drop_length] at this
  rw [w64 _ (by omega) (by omega)]
  exact this
theorem flags_f (k : Nat) (z n h c : Bool) (hk : 2 < k) : arcaderef1_flags.f k z n h c = some (flagsV z n h c) := by
  obtain ⟨k, rfl⟩ : ∃ m, k = m + 1 + 1 + 1 := ⟨k - 3, by omega⟩
  unfold arcaderef1_flags.f
  simp only [arcaderef1_flags.j0, arcaderef1_flags.j1]
  cases z <;> cases n <;> cases h <;> cases c <;> rfl
theorem has_16 : ∀ f : Int, 0 ≤ f → f ≤ 255 → arcaderef1_has.f f 16 = some (f / 16 % 2 == 1) := of_fin (by decide +kernel)
theorem has_32 : ∀ f : Int, 0 ≤ f → f ≤ 255 → arcaderef1_has.f f 32 = some (f / 32 % 2 == 1) := of_fin (by decide +kernel)
theorem has_64 : ∀ f : Int, 0 ≤ f → f ≤ 255 → arcaderef1_has.f f 64 = some (f / 64 % 2 == 1) := of_fin (by decide +kernel)
theorem has_128 : ∀ f : Int, 0 ≤ f → f ≤ 255 → arcaderef1_has.f f 128 = some (f / 128 == 1) := of_fin (by decide +kernel)
theorem clean_f : ∀ f : Int, 0 ≤ f → f ≤ 255 → arcaderef1_clean.f f = some (f / 16 * 16) := of_fin (by decide +kernel)
end Go.Proofs.YtpkogmcafgplgaaDoor.AluU
