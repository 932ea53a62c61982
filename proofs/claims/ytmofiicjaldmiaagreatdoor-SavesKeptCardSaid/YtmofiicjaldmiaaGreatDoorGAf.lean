import Derived.Shelf.SlSortCmp.WholeK
import Derived.Shelf.SlSortCmp.NoneTotal
import Derived.Ground.SlsfProg
import Derived.Lib.SlBytesConst
import Derived.Deep.Slices
import Derived.Deep.Fields
import Derived.ChangeSame
import Derived.Lib.SmallJoins
import Derived.Test.YtmofiicjaldmiaaGreatDoorGAe
section
namespace Go.Proofs.YtmofiicjaldmiaaGreatDoor.SwK
open Go.RowKit Go.Shelf YtmofiicjaldmiaaGreatDoorW.PrintWords YtmofiicjaldmiaaGreatDoorW.PrintLast SvA SvB SvC SvD SvE SvF SvG SvH SvI SvJ SvK SvL SvM SvN SvO SvP SvQ SvR SvS SvT SvU SvV SvW SvX SvY SvZ SwA SwB SwC SwD SwE SwF SwG SwI SwJ
set_option linter.unusedVariables false
set_option linter.unusedSimpArgs false
def pk (c n : Int) : Int := (if c < 0 then -(c + 1) else c) % n
theorem pk_bd (c n : Int) (hn : 0 < n) : 0 ≤ pk c n ∧ pk c n < n := by unfold pk; exact ⟨Int.emod_nonneg _ (by omega), Int.emod_lt_of_pos _ hn⟩
abbrev i64s (c : Int) : Prop := -9223372036854775808 ≤ c ∧ c ≤ 9223372036854775807
theorem pick_ok (c n : Int) (w : World) (hc : i64s c) (hn : 1 ≤ n) (hn2 : n ≤ 1000000000) : Calls Tryz.prog 15 #[.int .i64 c, .int .i64 n] w fun e w' => e = .returned (.int .i64 (pk c n)) ∧ w = w' := by
 have hn0 : (n == 0) = false := by rw [beq_eq_false_iff_ne]; omega
 unfold pk
 by_cases h : c < 0
 ·
  have d1 : decide (c < 0) = true := by simpa using h
  rw [if_pos h]
  go_enter Tryz.func15, Tryz.ntmps15
  go_wp2_with fail
  go_ret
  refine ⟨ret_int ?_, rfl⟩
  rw [show -(c + 1).tmod n = (-(c + 1)) % n by rw [← Int.neg_tmod, Int.tmod_eq_emod_of_nonneg (by omega)]]
 ·
  have d1 : decide (c < 0) = false := by simpa using h
  rw [if_neg h]
  go_enter Tryz.func15, Tryz.ntmps15
  go_wp2_with fail
  go_ret
  exact ⟨rfl, rfl⟩
structure AC where
 kind : Int
 ten : Int
 nm : Int
 bytes : Int
def AC.enc (a : AC) : Value := .agg #[.int .i64 a.kind, .int .i64 a.ten, .int .i64 a.nm, .int .i64 a.bytes]
structure AC.wf (a : AC) : Prop where
 k : i64s a.kind
 t : i64s a.ten
 n : i64s a.nm
 b : i64s a.bytes
def AC.t0 (a : AC) : Nat := (pk a.ten 8).toNat
def AC.n0 (a : AC) : Nat := (pk a.nm 6).toNat
theorem AC.t0_lt (a : AC) : a.t0 < 8 ∧ (a.t0 : Int) = pk a.ten 8 := by have := pk_bd a.ten 8 (by omega); unfold AC.t0; omega
theorem AC.n0_lt (a : AC) : a.n0 < 6 ∧ (a.n0 : Int) = pk a.nm 6 := by have := pk_bd a.nm 6 (by omega); unfold AC.n0; omega
theorem tenant_ok (a : AC) (ha : a.wf) (w : World) : Calls Tryz.prog 19 #[a.enc] w fun e w' => e = .returned (.int .i64 ((a.t0 : Int) + 1)) ∧ Below w.heap.size w w' := by
 have hb := pk_bd a.ten 8 (by omega)
 rw [a.t0_lt.2]
 obtain ⟨k, t, n, b⟩ := a
 have ht := ha.t
 dsimp only [AC.enc] at *
 have HP := Lib.hid (fun W => pick_ok t 8 W ht (by omega) (by omega))
 generalize pk t 8 = p at *
 go_enter Tryz.func19, Tryz.ntmps19
 go_wp2_with (go_at_call 15; refine (HP.out _).mono ?_; rintro e w' ⟨rfl, rfl⟩)
 go_ret
 exact ⟨ret_int (by omega), ba _⟩
def AC.puts (a : AC) : Bool := !(Int.tmod a.kind 4 == 0)
theorem puts_ok (a : AC) (w : World) : Calls Tryz.prog 27 #[a.enc] w fun e w' => e = .returned (.bool a.puts) ∧ Below w.heap.size w w' := by
 obtain ⟨k, t, n, b⟩ := a
 dsimp only [AC.enc]
 go_enter Tryz.func27, Tryz.ntmps27
 go_wp2_with fail
 go_ret
 exact ⟨rfl, ba _⟩
set_option maxRecDepth 100000 in
set_option maxHeartbeats 1000000 in
theorem at_ok (a : AC) (ha : a.wf) (w : World) : Calls Tryz.prog 28 #[a.enc] w fun e w' => e = .returned (.int .i64 ((6 * a.t0 + a.n0 : Nat) : Int)) ∧ Below w.heap.size w w' := by
 have hb := a.t0_lt
 have hn := a.n0_lt
 have HT := Lib.hid (fun W => tenant_ok a ha W)
 have hn1 := ha.n
 obtain ⟨k, t, n, b⟩ := a
 have HP := Lib.hid (fun W => pick_ok n 6 W hn1 (by omega) (by omega))
 have HN := Lib.hid hn
 have e1 : (((6 * (AC.mk k t n b).t0 + (AC.mk k t n b).n0 : Nat)) : Int) = 6 * ((AC.mk k t n b).t0 : Int) + pk n 6 := by rw [← hn.2]; push_cast; rfl
 have b1 := hb.1
 have b2 := pk_bd n 6 (by omega)
 clear hn
 rw [e1]
 generalize (AC.mk k t n b).t0 = tt at *
 generalize pk n 6 = p at *
 clear e1 HN hb ha
 dsimp only [AC.enc] at *
 go_enter Tryz.func28, Tryz.ntmps28
 go_upto_region 1 with (fail)
 have hS0 : (fun w' => w'.cell? ⟨w.heap.size, 0, none⟩ = some (.int .i64 k) ∧ w'.cell? ⟨w.heap.size, 1, none⟩ = some (.int .i64 t) ∧ w'.cell? ⟨w.heap.size, 2, none⟩ = some (.int .i64 n) ∧ w'.cell? ⟨w.heap.size, 3, none⟩ = some (.int .i64 b)) (w.alloc (.cells #[.int .i64 k, .int .i64 t, .int .i64 n, .int .i64 b] 33)) := ⟨Blk.cell (i := 0) (blkNew rfl) rfl, Blk.cell (i := 1) (blkNew rfl) rfl, Blk.cell (i := 2) (blkNew rfl) rfl, Blk.cell (i := 3) (blkNew rfl) rfl⟩
 generalize hw1 : w.alloc (.cells #[.int .i64 k, .int .i64 t, .int .i64 n, .int .i64 b] 33) = w1 at *
 have hB1 : Below w.heap.size w w1 := by rw [← hw1]; exact ba _
 clear hw1
 have hB1d := hB1.drew
 generalize w1.drew = w1d at *
 refine start_ (n := 9) (S := fun w' => w'.cell? ⟨w.heap.size, 0, none⟩ = some (.int .i64 k) ∧ w'.cell? ⟨w.heap.size, 1, none⟩ = some (.int .i64 t) ∧ w'.cell? ⟨w.heap.size, 2, none⟩ = some (.int .i64 n) ∧ w'.cell? ⟨w.heap.size, 3, none⟩ = some (.int .i64 b)) (ds := []) #[false, false, false, false, false, false, false, false, false] (by kernel_rfl) rfl rfl hS0 (fun hHeld => ?_)
 refine tk_ (i := 0) (N := some 3) (v := ?_) (a' := ?_) rfl rfl (by kernel_rfl) (fun _ _ _ h => h) (by rfl) ?_ hHeld ?_ ?_
 rotate_left
 ·
  intro w' s0
  obtain ⟨q1, q2, q3, q4⟩ := s0
  go_simp
  with_reducible rfl
 rotate_left
 · (simp only [put_s, List.set, i64_w, i32_w]; rfl)
 refine pu_ (i := 4) (N := some 7) (v := ?_) (a' := ?_) rfl rfl (by kernel_rfl) (fun _ _ _ h => h) (by rfl) ?_ ?_ ?_
 rotate_left
 · (intro w'; go_simp; with_reducible rfl)
 rotate_left
 · (simp only [put_s, List.set, i64_w, i32_w]; rfl)
 refine tk_ (i := 5) (N := some 8) (v := ?_) (a' := ?_) rfl rfl (by kernel_rfl) (fun _ _ _ h => h) (by rfl) ?_ hHeld ?_ ?_
 rotate_left
 ·
  intro w' s0
  obtain ⟨q1, q2, q3, q4⟩ := s0
  go_simp
  with_reducible rfl
 rotate_left
 · (simp only [put_s, List.set, i64_w, i32_w]; rfl)
 refine on_ (i := 1) (N := some 4) rfl rfl (by kernel_rfl) (by decide) (fun K hK => ?_)
 refine goes_ Tryz.func19 (by kernel_rfl) rfl #[.agg #[.int .i64 k, .int .i64 t, .int .i64 n, .int .i64 b]] (by first | rfl | (simp [Act.eval]; done)) rfl rfl (by first | rfl | (simp [Act.eval]; done)) ?_
 refine Calls.mono (HT.out _) ?_
 rintro e w2 ⟨rfl, hb⟩
 refine ⟨_, rfl, ?_⟩
 refine hK.out _ _ ⟨cellOf hb hHeld.1, cellOf hb hHeld.2.1, cellOf hb hHeld.2.2.1, cellOf hb hHeld.2.2.2⟩ (fun hHeld => ?_)
 clear hK K
 refine norm_ (a' := ?_) ?_ ?_
 rotate_left
 ·
  show Act.put _ (some 4) _ = _
  simp only [put_s, List.set, i64_w, i32_w]
  rfl
 refine pu_ (i := 2) (N := some 5) (v := ?_) (a' := ?_) rfl rfl (by kernel_rfl) (fun _ _ _ h => h) (by rfl) ?_ ?_ ?_
 rotate_left
 · (intro w'; go_simp; with_reducible rfl)
 rotate_left
 · (simp only [put_s, List.set, i64_w, i32_w]; rfl)
 refine pu_ (i := 3) (N := some 6) (v := ?_) (a' := ?_) rfl rfl (by kernel_rfl) (fun _ _ _ h => h) (by rfl) ?_ ?_ ?_
 rotate_left
 · (intro w'; go_simp; with_reducible rfl)
 rotate_left
 · (simp only [put_s, List.set, i64_w, i32_w]; rfl)
 refine on_ (i := 6) (N := some 9) rfl rfl (by kernel_rfl) (by decide) (fun K hK => ?_)
 refine goes_ Tryz.func15 (by kernel_rfl) rfl #[.int .i64 n, .int .i64 6] (by first | rfl | (simp [Act.eval]; done)) rfl rfl (by first | rfl | (simp [Act.eval]; done)) ?_
 refine Calls.mono (HP.out _) ?_
 rintro e w3 ⟨rfl, rfl⟩
 refine ⟨_, rfl, ?_⟩
 refine hK.out _ _ hHeld (fun hHeld => ?_)
 clear hK K
 refine norm_ (a' := ?_) ?_ ?_
 rotate_left
 ·
  show Act.put _ (some 9) _ = _
  simp only [put_s, List.set, i64_w, i32_w]
  rfl
 refine pu_ (i := 7) (N := some 10) (v := ?_) (a' := ?_) rfl rfl (by kernel_rfl) (fun _ _ _ h => h) (by rfl) ?_ ?_ ?_
 rotate_left
 · (intro w'; go_simp; with_reducible rfl)
 rotate_left
 · (simp only [put_s, List.set, i64_w, i32_w]; rfl)
 refine pu_ (i := 8) (N := some 2) (v := ?_) (a' := ?_) rfl rfl (by kernel_rfl) (fun _ _ _ h => h) (by rfl) ?_ ?_ ?_
 rotate_left
 · (intro w'; go_simp; with_reducible rfl)
 rotate_left
 · (simp only [put_s, List.set, i64_w, i32_w]; rfl)
 refine done_ (by kernel_rfl) ?_
 go_wp2_with fail
 go_ret
 exact ⟨ret_int (by unfold wrap64; omega), hB1.drew.trans (hb.mono hB1.size)⟩
def nmL : List ByteArray := [⟨#[97]⟩, ⟨#[98]⟩, ⟨#[103, 97, 109, 101, 45, 49]⟩, ⟨#[115, 105, 120, 116, 101, 101, 110, 95, 108, 101, 116, 116, 101, 114, 115, 95]⟩, ⟨#[48]⟩, ⟨#[45]⟩]
def nmS (k : Nat) : ByteArray := nmL.getD k ⟨#[]⟩
def AC.name (a : AC) : ByteArray := nmS a.n0
theorem names_ok (w : World) : Calls Tryz.prog 36 #[] w fun e w' => e = .returned (.slice (some ⟨w.heap.size, 0, none⟩) 6 6) ∧ w' = w.alloc (.cells #[.string (nmS 0), .string (nmS 1), .string (nmS 2), .string (nmS 3), .string (nmS 4), .string (nmS 5)] 9) := by
 go_enter Tryz.func36, Tryz.ntmps36
 go_wp2_with fail
 go_ret
 exact ⟨rfl, rfl⟩
theorem names_cell (w : World) (p : Nat) (hp : p < 6) : (w.alloc (.cells #[.string (nmS 0), .string (nmS 1), .string (nmS 2), .string (nmS 3), .string (nmS 4), .string (nmS 5)] 9)).cell? ⟨w.heap.size, p, none⟩ = some (.string (nmS p)) := by
  rcases (show p = 0 ∨ p = 1 ∨ p = 2 ∨ p = 3 ∨ p = 4 ∨ p = 5 by omega) with rfl | rfl | rfl | rfl | rfl | rfl <;> exact Blk.cell (blkNew rfl) rfl
set_option maxRecDepth 100000 in
set_option maxHeartbeats 1000000 in
theorem name_ok (a : AC) (ha : a.wf) (w : World) : Calls Tryz.prog 29 #[a.enc] w fun e w' => e = .returned (.string a.name) ∧ Below w.heap.size w w' := by
 have hn := a.n0_lt
 have hn1 := ha.n
 unfold AC.name
 obtain ⟨k, t, n, b⟩ := a
 have HP := Lib.hid (fun W => pick_ok n 6 W hn1 (by omega) (by omega))
 have hn2 : ((AC.mk k t n b).n0 : Int) = pk n 6 := hn.2
 rw [← hn2] at HP
 generalize (AC.mk k t n b).n0 = p at *
 have hp6 := hn.1
 have hp6i : (p : Int) < 6 := by omega
 clear hn ha hn2
 dsimp only [AC.enc] at *
 go_enter Tryz.func29, Tryz.ntmps29
 go_upto_region 1 with (fail)
 have hS0 : (fun w' => w'.cell? ⟨w.heap.size, 0, none⟩ = some (.int .i64 k) ∧ w'.cell? ⟨w.heap.size, 1, none⟩ = some (.int .i64 t) ∧ w'.cell? ⟨w.heap.size, 2, none⟩ = some (.int .i64 n) ∧ w'.cell? ⟨w.heap.size, 3, none⟩ = some (.int .i64 b)) (w.alloc (.cells #[.int .i64 k, .int .i64 t, .int .i64 n, .int .i64 b] 33)) := ⟨Blk.cell (i := 0) (blkNew rfl) rfl, Blk.cell (i := 1) (blkNew rfl) rfl, Blk.cell (i := 2) (blkNew rfl) rfl, Blk.cell (i := 3) (blkNew rfl) rfl⟩
 generalize hw1 : w.alloc (.cells #[.int .i64 k, .int .i64 t, .int .i64 n, .int .i64 b] 33) = w1 at *
 have hB1 : Below w.heap.size w w1 := by rw [← hw1]; exact ba _
 clear hw1
 have hB1d := hB1.drew
 generalize w1.drew = w1d at *
 refine start_ (n := 7) (S := fun w' => w'.cell? ⟨w.heap.size, 0, none⟩ = some (.int .i64 k) ∧ w'.cell? ⟨w.heap.size, 1, none⟩ = some (.int .i64 t) ∧ w'.cell? ⟨w.heap.size, 2, none⟩ = some (.int .i64 n) ∧ w'.cell? ⟨w.heap.size, 3, none⟩ = some (.int .i64 b)) (ds := []) #[false, false, false, false, false, false, false] (by kernel_rfl) rfl rfl hS0 (fun hHeld => ?_)
 refine pu_ (i := 1) (N := some 4) (v := ?_) (a' := ?_) rfl rfl (by kernel_rfl) (fun _ _ _ h => h) (by rfl) ?_ ?_ ?_
 rotate_left
 · (intro w'; go_simp; with_reducible rfl)
 rotate_left
 · (simp only [put_s, List.set, i64_w, i32_w]; rfl)
 refine tk_ (i := 2) (N := some 5) (v := ?_) (a' := ?_) rfl rfl (by kernel_rfl) (fun _ _ _ h => h) (by rfl) ?_ hHeld ?_ ?_
 rotate_left
 ·
  intro w' s0
  obtain ⟨q1, q2, q3, q4⟩ := s0
  go_simp
  with_reducible rfl
 rotate_left
 · (simp only [put_s, List.set, i64_w, i32_w]; rfl)
 refine on_ (i := 0) (N := some 3) rfl rfl (by kernel_rfl) (by decide) (fun K hK => ?_)
 refine goes_ Tryz.func36 (by kernel_rfl) rfl #[] (by first | rfl | (simp [Act.eval]; done)) rfl rfl (by first | rfl | (simp [Act.eval]; done)) ?_
 refine Calls.mono (names_ok _) ?_
 rintro e w2 ⟨rfl, rfl⟩
 refine ⟨_, rfl, ?_⟩
 refine hK.out _ _ ⟨cellOf (ba _) hHeld.1, cellOf (ba _) hHeld.2.1, cellOf (ba _) hHeld.2.2.1, cellOf (ba _) hHeld.2.2.2⟩ (fun hHeld => ?_)
 clear hK K
 refine norm_ (a' := ?_) ?_ ?_
 rotate_left
 ·
  show Act.put _ (some 3) _ = _
  simp only [put_s, List.set, i64_w, i32_w]
  rfl
 refine on_ (i := 3) (N := some 6) rfl rfl (by kernel_rfl) (by decide) (fun K hK => ?_)
 refine goes_ Tryz.func15 (by kernel_rfl) rfl #[.int .i64 n, .int .i64 6] (by first | rfl | (simp [Act.eval]; done)) rfl rfl (by first | rfl | (simp [Act.eval]; done)) ?_
 refine Calls.mono (HP.out _) ?_
 rintro e w3 ⟨rfl, rfl⟩
 refine ⟨_, rfl, ?_⟩
 refine hK.out _ _ hHeld (fun hHeld => ?_)
 clear hK K
 refine norm_ (a' := ?_) ?_ ?_
 rotate_left
 ·
  show Act.put _ (some 6) _ = _
  simp only [put_s, List.set, i64_w, i32_w]
  rfl
 refine pu_ (i := 4) (N := some 7) (v := ?_) (a' := ?_) rfl rfl (by kernel_rfl) (fun _ _ _ h => h) (by rfl) ?_ ?_ ?_
 rotate_left
 · (intro w'; go_simp; with_reducible rfl)
 rotate_left
 · (simp only [put_s, List.set, i64_w, i32_w]; rfl)
 refine on_ (i := 5) (N := some 8) rfl rfl (by kernel_rfl) (by decide) (fun K hK => ?_)
 have hcl : (w1.drew.alloc (.cells #[.string (nmS 0), .string (nmS 1), .string (nmS 2), .string (nmS 3), .string (nmS 4), .string (nmS 5)] 9)).cell? ⟨w1.heap.size, p, none⟩ = some (.string (nmS p)) := names_cell w1.drew p hp6
 refine value_ (v := .string (nmS p)) (w1 := w1.drew.alloc (.cells #[.string (nmS 0), .string (nmS 1), .string (nmS 2), .string (nmS 3), .string (nmS 4), .string (nmS 5)] 9)) (by rfl) rfl ?_ ?_
 ·
  go_simp
  rcases (show p = 0 ∨ p = 1 ∨ p = 2 ∨ p = 3 ∨ p = 4 ∨ p = 5 by omega) with rfl | rfl | rfl | rfl | rfl | rfl <;> rfl
 refine hK.out _ _ hHeld (fun hHeld => ?_)
 clear hK K
 refine norm_ (a' := ?_) ?_ ?_
 rotate_left
 ·
  show Act.put _ (some 8) _ = _
  simp only [put_s, List.set, i64_w, i32_w]
  rfl
 refine pu_ (i := 6) (N := some 2) (v := ?_) (a' := ?_) rfl rfl (by kernel_rfl) (fun _ _ _ h => h) (by rfl) ?_ ?_ ?_
 rotate_left
 · (intro w'; go_simp; with_reducible rfl)
 rotate_left
 · (simp only [put_s, List.set, i64_w, i32_w]; rfl)
 refine done_ (by kernel_rfl) ?_
 go_wp2_with fail
 go_ret
 exact ⟨rfl, hB1.drew.alloc hB1.size _⟩
def dataS (b : Int) (n : Nat) : List Int := (List.range n).map (fun i : Nat => (b + (i : Int) * (i : Int)) % 256)
theorem dataS_len (b : Int) (n : Nat) : (dataS b n).length = n := by simp [dataS]
theorem dataS_succ (b : Int) (n : Nat) : dataS b (n + 1) = dataS b n ++ [(b + (n : Int) * n) % 256] := by simp [dataS, List.range_succ]
theorem dataS_u8 (b : Int) (n : Nat) : u8s (dataS b n) := by
 intro x hx
 obtain ⟨i, _, rfl⟩ := List.mem_map.1 hx
 omega
theorem data_step (b : Int) (n k : Nat) (hk : k < n) : (dataS b k ++ zeros (n - k)).set k ((b + (k : Int) * k) % 256) = dataS b (k + 1) ++ zeros (n - (k + 1)) := by
 rw [List.set_append_right _ _ (by rw [dataS_len]; omega), dataS_len, Nat.sub_self, dataS_succ, List.append_assoc]
 congr 1
 obtain ⟨m, hm⟩ : ∃ m, n - k = m + 1 := ⟨n - k - 1, by omega⟩
 rw [hm, show n - (k + 1) = m by omega]
 rfl
def AC.len (a : AC) (most : Int) : Nat := (pk a.bytes most).toNat
theorem AC.len_lt (a : AC) (most : Int) (h : 0 < most) : (a.len most : Int) < most ∧ (a.len most : Int) = pk a.bytes most := by have := pk_bd a.bytes most h; unfold AC.len; omega
def AC.data (a : AC) (most : Int) : List Int := dataS a.bytes (a.len most)
set_option maxRecDepth 100000 in
set_option maxHeartbeats 1000000 in
theorem data_ok0 (k t n b : Int) (hb : i64s b) (most : Int) (h1 : 1 ≤ most) (h2 : most ≤ 1000000) (m : Nat) (hm : pk b most = m) (w : World) : Calls Tryz.prog 24 #[.agg #[.int .i64 k, .int .i64 t, .int .i64 n, .int .i64 b], .int .i64 most] w (FreshP w m (dataS b m)) := by
 have hm2 : m < 1000000 := by have := pk_bd b most (by omega); omega
 have HP := Lib.hid (fun W => pick_ok b most W hb (by omega) (by omega))
 rw [hm] at HP
 have hmk : ∀ W : World, (Instr.makeSlice 43 (.int .i64 (m : Int)) (.int .i64 (m : Int))).run Tryz.prog W = .ok (.slice (some ⟨W.heap.size, 0, none⟩) m m) (W.alloc (.cells (madeCells #[.int .u8 0] m) 5)) := print_make (P := Tryz.prog) 43 5 .u8 1 Tryz.underlying43 info5 (by decide) m (by omega)
 clear hm
 go_enter Tryz.func24, Tryz.ntmps24
 go_upto_region 2 with (go_at_call 15; refine (HP.out _).mono ?_; rintro e w' ⟨rfl, rfl⟩)
 have cb : (w.alloc (.cells #[.int .i64 k, .int .i64 t, .int .i64 n, .int .i64 b] 33)).cell? ⟨w.heap.size, 3, none⟩ = some (.int .i64 b) := Blk.cell (i := 3) (blkNew rfl) rfl
 have hbx : w.heap.size < (w.alloc (.cells #[.int .i64 k, .int .i64 t, .int .i64 n, .int .i64 b] 33)).heap.size := by simp
 have hk0 : Kp (fun q => q = 1) w (fun _ => 0) (w.alloc (.cells #[.int .i64 k, .int .i64 t, .int .i64 n, .int .i64 b] 33)) (fun _ => 0) := ⟨rfl, rfl, rfl, by simp, fun q hq _ => ⟨rfl, (ba _).block q hq⟩⟩
 generalize w.alloc (.cells #[.int .i64 k, .int .i64 t, .int .i64 n, .int .i64 b] 33) = w1 at *
 have ho := ow_made w1 m (by omega)
 have hk1 := hk0.trans (kp_made w1 (.cells (madeCells #[.int .u8 0] m) 5))
 have cb1 : (w1.alloc (.cells (madeCells #[.int .u8 0] m) 5)).cell? ⟨w.heap.size, 3, none⟩ = some (.int .i64 b) := cellOf (ba _) cb
 go_upto_region 4 with (fail)
 generalize w1.alloc (.cells (madeCells #[.int .u8 0] m) 5) = w2 at *
 generalize hgb : w1.heap.size = gb at *
 generalize tagged w1 (fun _ => 0) 1 = o1 at *
 have HI := Lib.hid (And.intro ho (And.intro hk1 cb1))
 clear ho hk1 cb1 hk0 cb hmk
 go_loopw [7] (fun v wr => ∃ j : Nat, j ≤ m ∧ v = .int .i64 (j : Int) ∧ ∃ o, Ow u8K 5 wr o 1 ⟨some ⟨gb, 0, none⟩, m, m⟩ (dataS b j ++ zeros (m - j)) ∧ Kp (fun q => q = 1) w (fun _ => 0) wr o ∧ wr.cell? ⟨w.heap.size, 3, none⟩ = some (.int .i64 b)) (fun v _ => m - (intOf v).toNat)
 case atStart => exact ⟨0, by omega, rfl, o1, HI.out.1, HI.out.2.1, HI.out.2.2⟩
 case round =>
  obtain ⟨j, hj, rfl, o, h1, h2, c3⟩ := hrel
  by_cases hlt : j < m
  ·
   have dl : decide ((j : Int) < (m : Int)) = true := by simp; omega
   have hjm : (j : Int) < (m : Int) := by omega
   obtain ⟨cg, zg, hgl⟩ := ow_cell h1 j 0 (by rw [List.getElem?_append_right (by rw [dataS_len]; exact Nat.le_refl _), dataS_len, Nat.sub_self]; obtain ⟨q, hq⟩ : ∃ q, m - j = q + 1 := ⟨m - j - 1, by omega⟩; rw [hq]; rfl)
   obtain ⟨p1, p2⟩ := h1.put j ((b + (j : Int) * j) % 256)
   rw [data_step b m j hlt] at p1
   have HP1 := Lib.hid (And.intro p1 (h2.trans p2))
   clear p1 p2 h1 h2
   have ew : wrap64 (b + wrap64 ((j : Int) * j)) % 256 = (b + (j : Int) * j) % 256 := by unfold wrap64; omega
   have HW := Lib.hid ew
   have HC3 := Lib.hid (show (wr.setCell ⟨gb, j, none⟩ (.int .u8 ((b + (j : Int) * j) % 256))).cell? ⟨w.heap.size, 3, none⟩ = some (.int .i64 b) from (World.cell?_of_block (w := wr) (Below.heap_setCell _ _ _ _ (show w.heap.size ≠ gb by omega))).trans c3)
   clear ew
   go_wp2_with fail
   case roundEnd =>
    rw [HW.out]
    exact ⟨⟨j + 1, by omega, by go_num, o, HP1.out.1, HP1.out.2, HC3.out⟩, by simp [intOf]; omega⟩
  ·
   have dl : decide ((j : Int) < (m : Int)) = false := by simp; omega
   obtain rfl : j = m := by omega
   rw [Nat.sub_self] at h1
   have e1 : dataS b j ++ zeros 0 = dataS b j := List.append_nil _
   rw [e1] at h1
   have HE := Lib.hid (fresh_end h1 (by omega) h2)
   clear h1 h2
   go_wp2_with fail
   go_ret
   exact HE.out
theorem data_ok (a : AC) (ha : a.wf) (most : Int) (h1 : 1 ≤ most) (h2 : most ≤ 1000000) (w : World) : Calls Tryz.prog 24 #[a.enc, .int .i64 most] w (FreshP w (a.len most) (a.data most)) :=
  data_ok0 a.kind a.ten a.nm a.bytes ha.b most h1 h2 (a.len most) (a.len_lt most (by omega)).2.symm w
end Go.Proofs.YtmofiicjaldmiaaGreatDoor.SwK
end
section
namespace Go.Proofs.YtmofiicjaldmiaaGreatDoor.SwH
open Go.RowKit Go.Shelf YtmofiicjaldmiaaGreatDoorW.PrintWords YtmofiicjaldmiaaGreatDoorW.PrintLast SvA SvB SvC SvD SvE SvF SvG SvH SvI SvJ SvK SvL SvM SvN SvO SvP SvQ SvR SvS SvT SvU SvV SvW SvX SvY SvZ SwA SwB SwC SwD SwE SwF SwG SwI SwJ SwK
set_option linter.unusedVariables false
set_option linter.unusedSimpArgs false
open Go.Lib Go.Sort
def Tryz.sortInfo_ren : Go.Shelf.Ren := ⟨fun | 6 => 59 | 15 => 100 | 14 => 99 | 28 => 141 | 29 => 142 | 20 => 133 | 21 => 134 | 22 => 135 | 23 => 136 | 24 => 137 | 25 => 138 | 26 => 139 | 27 => 140 | 46 => 159 | 47 => 160 | 48 => 161 | 49 => 162 | 50 => 163 | 57 => 165 | n => n, fun | 22 => 45 | 24 => 49 | 25 => 118 | 3 => 3 | 39 => 156 | 0 => 0 | 53 => 103 | 55 => 210 | 4 => 4 | 46 => 202 | 45 => 201 | 50 => 206 | 5 => 5 | 9 => 9 | 66 => 236 | 70 => 240 | 76 => 246 | 77 => 247 | n => n, fun | n => n⟩
theorem Tryz.sortInfo : Go.Proofs.SlLaysF0.n6 Tryz.prog Tryz.sortInfo_ren :=
  { mixed := by kernel_rfl,
    f6 := ⟨Tryz.f59.name, by decide, Tryz.func59.trans (congrArg some (by kernel_rfl))⟩,
    f14 := ⟨Tryz.f99.name, by decide, Tryz.func99.trans (congrArg some (by kernel_rfl))⟩,
    f15 := Tryz.func100.trans (congrArg some (by kernel_rfl)),
    f20 := ⟨Tryz.f133.name, by decide, Tryz.func133.trans (congrArg some (by kernel_rfl))⟩,
    f21 := ⟨Tryz.f134.name, by decide, Tryz.func134.trans (congrArg some (by kernel_rfl))⟩,
    f22 := ⟨Tryz.f135.name, by decide, Tryz.func135.trans (congrArg some (by kernel_rfl))⟩,
    f23 := ⟨Tryz.f136.name, by decide, Tryz.func136.trans (congrArg some (by kernel_rfl))⟩,
    f24 := ⟨Tryz.f137.name, by decide, Tryz.func137.trans (congrArg some (by kernel_rfl))⟩,
    f25 := ⟨Tryz.f138.name, by decide, Tryz.func138.trans (congrArg some (by kernel_rfl))⟩,
    f26 := ⟨Tryz.f139.name, by decide, Tryz.func139.trans (congrArg some (by kernel_rfl))⟩,
    f27 := ⟨Tryz.f140.name, by decide, Tryz.func140.trans (congrArg some (by kernel_rfl))⟩,
    f28 := Tryz.func141.trans (congrArg some (by kernel_rfl)),
    f29 := Tryz.func142.trans (congrArg some (by kernel_rfl)),
    f46 := ⟨Tryz.f159.name, by decide, Tryz.func159.trans (congrArg some (by kernel_rfl))⟩,
    f47 := Tryz.func160.trans (congrArg some (by kernel_rfl)),
    f48 := Tryz.func161.trans (congrArg some (by kernel_rfl)),
    f49 := ⟨Tryz.f162.name, by decide, Tryz.func162.trans (congrArg some (by kernel_rfl))⟩,
    f50 := ⟨Tryz.f163.name, by decide, Tryz.func163.trans (congrArg some (by kernel_rfl))⟩,
    f57 := ⟨Tryz.f165.name, by decide, Tryz.func165.trans (congrArg some (by kernel_rfl))⟩,
    t0 := Tryz.underlying0,
    a0 := Tryz.isAgg0,
    z0 := Tryz.sizeOf0,
    v0 := Tryz.zeroValue0,
    t3 := Tryz.underlying3,
    a3 := Tryz.isAgg3,
    z3 := Tryz.sizeOf3,
    v3 := Tryz.zeroValue3,
    t4 := Tryz.underlying4,
    a4 := Tryz.isAgg4,
    z4 := Tryz.sizeOf4,
    v4 := Tryz.zeroValue4,
    t5 := Tryz.underlying5,
    a5 := Tryz.isAgg5,
    z5 := Tryz.sizeOf5,
    v5 := Tryz.zeroValue5,
    t9 := Tryz.underlying9,
    a9 := Tryz.isAgg9,
    z9 := Tryz.sizeOf9,
    v9 := Tryz.zeroValue9,
    t22 := Tryz.underlying45,
    a22 := Tryz.isAgg45,
    z22 := Tryz.sizeOf45,
    v22 := Tryz.zeroValue45,
    t25 := Tryz.underlying118,
    a25 := Tryz.isAgg118,
    z25 := Tryz.sizeOf118,
    v25 := Tryz.zeroValue118,
    t39 := Tryz.underlying156,
    a39 := Tryz.isAgg156,
    z39 := Tryz.sizeOf156,
    v39 := Tryz.zeroValue156,
    t45 := Tryz.underlying201,
    a45 := Tryz.isAgg201,
    z45 := Tryz.sizeOf201,
    v45 := Tryz.zeroValue201,
    t46 := Tryz.underlying202,
    a46 := Tryz.isAgg202,
    z46 := Tryz.sizeOf202,
    v46 := Tryz.zeroValue202,
    t50 := Tryz.underlying206,
    a50 := Tryz.isAgg206,
    z50 := Tryz.sizeOf206,
    v50 := Tryz.zeroValue206,
    t53 := Tryz.underlying103,
    a53 := Tryz.isAgg103,
    z53 := Tryz.sizeOf103,
    v53 := Tryz.zeroValue103,
    t55 := Tryz.underlying210,
    a55 := Tryz.isAgg210,
    z55 := Tryz.sizeOf210,
    v55 := Tryz.zeroValue210,
    t66 := Tryz.underlying236,
    a66 := Tryz.isAgg236,
    z66 := Tryz.sizeOf236,
    v66 := Tryz.zeroValue236,
    t70 := Tryz.underlying240,
    a70 := Tryz.isAgg240,
    z70 := Tryz.sizeOf240,
    v70 := Tryz.zeroValue240,
    t76 := Tryz.underlying246,
    a76 := Tryz.isAgg246,
    z76 := Tryz.sizeOf246,
    v76 := Tryz.zeroValue246,
    t77 := Tryz.underlying247,
    a77 := Tryz.isAgg247,
    z77 := Tryz.sizeOf247,
    v77 := Tryz.zeroValue247 }
structure IN where
 name : ByteArray
 ver : Int
 size : Int
instance : Inhabited IN := ⟨⟨⟨#[]⟩, 0, 0⟩⟩
def IN.cells (x : IN) : List Value := [.string x.name, .int .i64 x.ver, .int .i64 x.size]
def inK : Kd IN := flatK 3 IN.cells (fun _ => rfl) (fun x u hu => by simp only [IN.cells, List.mem_cons, List.not_mem_nil, or_false] at hu; rcases hu with rfl | rfl | rfl <;> rfl)
theorem isNaN_ok (s : ByteArray) (w : World) : Calls Tryz.prog 101 #[.string s] w fun e w' => e = .returned (.bool false) ∧ w = w' := by
 go_enter Tryz.func101, Tryz.ntmps101
 go_wp2_with fail
 go_ret
 exact ⟨rfl, rfl⟩
def cmpS (s u : ByteArray) : Int := if Op.bytesLess s.toList u.toList then -1 else if s.toList == u.toList then 0 else 1
theorem cmp_ok (s u : ByteArray) (w : World) : Calls Tryz.prog 61 #[.string s, .string u] w fun e w' => e = .returned (.int .i64 (cmpS s u)) ∧ w = w' := by
 unfold cmpS
 cases h1 : Op.bytesLess s.toList u.toList
 ·
  cases h2 : s.toList == u.toList
  ·
   have h3 : (!s.toList == u.toList) = true := by rw [h2]; rfl
   go_enter Tryz.func61, Tryz.ntmps61
   go_wp2_with (go_at_call 101; refine (isNaN_ok _ _).mono ?_; rintro e w' ⟨rfl, rfl⟩)
   go_ret
   exact ⟨rfl, rfl⟩
  ·
   have h3 : (!s.toList == u.toList) = false := by rw [h2]; rfl
   go_enter Tryz.func61, Tryz.ntmps61
   go_wp2_with (go_at_call 101; refine (isNaN_ok _ _).mono ?_; rintro e w' ⟨rfl, rfl⟩)
   go_ret
   exact ⟨rfl, rfl⟩
 ·
  go_enter Tryz.func61, Tryz.ntmps61
  go_wp2_with (go_at_call 101; refine (isNaN_ok _ _).mono ?_; rintro e w' ⟨rfl, rfl⟩)
  go_ret
  exact ⟨rfl, rfl⟩
def cfS (x y : IN) : Int := cmpS x.name y.name
theorem ltS_eq (x y : IN) : ltOf cfS x y = ltStr x.name.toList y.name.toList := by
 unfold ltOf cfS cmpS ltStr
 rw [bytesLess_eq]
 by_cases h : x.name.toList < y.name.toList
 · rw [decide_eq_true h]; rfl
 ·
  rw [decide_eq_false h]
  cases x.name.toList == y.name.toList <;> rfl
theorem swoS : SWO (ltOf cfS) where
 irrefl x := by rw [ltS_eq]; exact swo_ltStr.irrefl _
 trans x y z := by rw [ltS_eq, ltS_eq, ltS_eq]; exact swo_ltStr.trans _ _ _
 ntrans x y z := by rw [ltS_eq, ltS_eq, ltS_eq]; exact swo_ltStr.ntrans _ _ _
theorem less_ok (x y : IN) (w : World) : Calls Tryz.prog 60 #[.agg x.cells.toArray, .agg y.cells.toArray] w fun e w' => e = .returned (.int .i64 (cfS x y)) ∧ ∃ q os', w' = grow (w.drewN q) os' := by
 obtain ⟨x1, x2, x3⟩ := x
 obtain ⟨y1, y2, y3⟩ := y
 dsimp only [IN.cells, cfS]
 have HC := Lib.hid (fun W => cmp_ok x1 y1 W)
 generalize cmpS x1 y1 = r at *
 go_enter Tryz.func60, Tryz.ntmps60
 go_wp2_with (go_at_call 61; refine (HC.out _).mono ?_; rintro e w' ⟨rfl, rfl⟩)
 go_ret
 exact ⟨rfl, 0, #[_, _], by rw [alloc_eq_grow, alloc_eq_grow, grow_grow]; rfl⟩
theorem below_sortK (enc : IN → List Value) (k : Nat) (w : World) (blk n : Nat) (d : Array IN) (os : Array Obj) (B : Nat) (hB : B ≤ blk) (hs : B ≤ w.heap.size) : Below B w (sortWorldK enc k w blk 0 n d os) := by
 refine ⟨rfl, rfl, rfl, ?_, fun q hq => ?_⟩
 ·
  have := size_sortWorldK_c enc k w blk 0 n d os
  exact this
 ·
  have h1 : (sortWorldK enc k w blk 0 n d os).heap[q]? = (putRowK enc k (Sort.ahead w n) blk 0 d).heap[q]? := by
   unfold sortWorldK grow
   rw [Array.getElem?_append_left (by rw [size_putRowK]; show q < w.heap.size; omega)]
  rw [h1]
  show (w.heap.modify blk _)[q]? = _
  rw [Array.getElem?_modify, if_neg (by omega)]
theorem reps_at {f : IN → List Value} (hf : ∀ x, (f x).length = 3) {ps : List IN} {cs : List Value} (h : Reps (fun x c => c = f x) 3 ps cs) (q : Nat) (hq : q < ps.length * 3) : cs[q]? = some ((f (ps.toArray[q / 3]!))[q % 3]!) := by
 obtain ⟨h1, h2⟩ := h
 have hj : q / 3 < ps.length := by omega
 have h3 := h2 (q / 3) _ (List.getElem?_eq_getElem hj)
 have e1 : ((cs.drop (q / 3 * 3)).take 3)[q % 3]? = cs[q]? := by
  rw [List.getElem?_take_of_lt (by omega), List.getElem?_drop]
  congr 1
  omega
 rw [← e1, h3]
 have e2 : ps.toArray[q / 3]! = ps[q / 3] := by simp [hj]
 rw [e2]
 have hl := hf ps[q / 3]
 rw [List.getElem?_eq_getElem (by omega)]
 rw [getElem!_pos _ _ (by omega)]
theorem reps_of {f : IN → List Value} (hf : ∀ x, (f x).length = 3) {ps : List IN} {cs : List Value} (hl : cs.length = ps.length * 3) (h : ∀ q, q < ps.length * 3 → cs[q]? = some ((f (ps.toArray[q / 3]!))[q % 3]!)) : Reps (fun x c => c = f x) 3 ps cs := by
 refine ⟨hl, fun j p hj => ?_⟩
 obtain ⟨hj1, hj2⟩ := List.getElem?_eq_some_iff.1 hj
 apply List.ext_getElem?
 intro i
 have hfl := hf p
 by_cases hi : i < 3
 ·
  rw [List.getElem?_take_of_lt hi, List.getElem?_drop, h _ (by omega)]
  have e1 : (j * 3 + i) / 3 = j := by omega
  have e2 : (j * 3 + i) % 3 = i := by omega
  rw [e1, e2]
  have e3 : ps.toArray[j]! = p := by simp [hj1, hj2]
  rw [e3, List.getElem?_eq_getElem (by omega), getElem!_pos _ _ (by omega)]
 · rw [List.getElem?_eq_none (by rw [List.length_take, List.length_drop]; omega), List.getElem?_eq_none (by omega)]
theorem ow_in {W : World} {o : Nat → Nat} {t gb n c : Nat} {xs : List IN} (h : Ow inK 49 W o t ⟨some ⟨gb, 0, none⟩, n, c⟩ xs) : ∃ cur : Array Value, W.heap[gb]? = some (.cells cur 49 (0, 0)) ∧ n ≤ c ∧ c ≤ maxLen ∧ cur.size = c * 3 ∧ xs.length = n ∧ ∀ q, q < n * 3 → cur[q]? = some ((IN.cells (xs.toArray[q / 3]!))[q % 3]!) := by
 have hl := (ow_len h).1
 obtain ⟨_, inner, ho, hr⟩ := h
 rcases ho.2 with ⟨hv, _⟩ | ⟨g, cap, cur, hv, hb, hh, hnc, hcm, hcs, htk⟩
 · simp [Sl.enc] at hv
 ·
  simp only [Sl.enc, Value.slice.injEq, Option.some.injEq, Addr.mk.injEq] at hv
  obtain ⟨⟨rfl, _⟩, h2, rfl⟩ := hv
  refine ⟨cur, hh, by omega, hcm, hcs, hl, fun q hq => ?_⟩
  have hq' : q < xs.length * 3 := by rw [hl]; exact hq
  have h3 := reps_at (f := IN.cells) (fun _ => rfl) (ps := xs) hr q hq'
  rw [← htk, List.getElem?_take_of_lt (by exact hq')] at h3
  rw [← h3]
  simp
theorem ow_of_in {W : World} {o : Nat → Nat} {t gb n c : Nat} {xs : List IN} {cur : Array Value} (h1 : W.heap[gb]? = some (.cells cur 49 (0, 0))) (h2 : n ≤ c) (h3 : c ≤ maxLen) (h4 : cur.size = c * 3) (h5 : xs.length = n) (h6 : ∀ q, q < n * 3 → cur[q]? = some ((IN.cells (xs.toArray[q / 3]!))[q % 3]!)) (ho : o gb = t) : Ow inK 49 W o t ⟨some ⟨gb, 0, none⟩, n, c⟩ xs := by
 subst h5
 have hcl : cur.toList.length = c * 3 := by rw [Array.length_toList]; exact h4
 refine ⟨fun k hk => ?_, cur.toList.take (xs.length * 3), ?_, ?_⟩
 ·
  injection hk with hk
  subst hk
  exact ho
 ·
  refine ⟨?_, .inr ⟨gb, c, cur, rfl, Nat.zero_le _, h1, h2, h3, h4, rfl⟩⟩
  rw [List.length_take, hcl]
  show min (xs.length * 3) (c * 3) = xs.length * 3
  omega
 ·
  refine reps_of (fun _ => rfl) ?_ (fun q hq => ?_)
  ·
   rw [List.length_take, hcl]
   omega
  ·
   rw [List.getElem?_take_of_lt hq, ← h6 q hq]
   simp
theorem ow_holds {W : World} {o : Nat → Nat} {t gb n c : Nat} {xs : List IN} (h : Ow inK 49 W o t ⟨some ⟨gb, 0, none⟩, n, c⟩ xs) : HoldsK IN.cells 3 W gb 0 xs.toArray := by
 obtain ⟨cur, h1, h2, h3, h4, h5, h6⟩ := ow_in h
 intro q hq
 rw [Sort.size_flatK] at hq
 rw [Sort.get_flatK _ _ _ _ hq, Nat.zero_add]
 have hq' : q < n * 3 := by simpa [h5] using hq
 exact ⟨Blk.cell h1 (h6 q hq'), Blk.frozen h1⟩
theorem ow_sorted {W : World} {o : Nat → Nat} {t gb n c : Nat} {xs : List IN} (h : Ow inK 49 W o t ⟨some ⟨gb, 0, none⟩, n, c⟩ xs) (m : Nat) (d : Array IN) (os : Array Obj) (hd : d.size = xs.length) :
  Ow inK 49 (sortWorldK IN.cells 3 W gb 0 m d os) (tagged W o 0) t ⟨some ⟨gb, 0, none⟩, n, c⟩ d.toList := by
 have hgo := ow_blk h gb rfl
 obtain ⟨cur, h1, h2, h3, h4, h5, h6⟩ := ow_in h
 refine ow_of_in (cur := putCells id 0 (Sort.flatK IN.cells 3 d) cur) ?_ h2 h3 ?_ (by rw [Array.length_toList, hd, h5]) (fun q hq => ?_) (by rw [tagged_old hgo.2]; exact hgo.1)
 ·
  have e : (sortWorldK IN.cells 3 W gb 0 m d os).heap[gb]? = (putRowK IN.cells 3 (Sort.ahead W m) gb 0 d).heap[gb]? := by
   unfold sortWorldK grow
   rw [Array.getElem?_append_left (by rw [size_putRowK]; exact hgo.2)]
  rw [e]
  show (W.heap.modify gb _)[gb]? = _
  rw [Array.getElem?_modify, if_pos rfl, h1]
  rfl
 ·
  unfold putCells
  rw [Array.size_mapIdx]
  exact h4
 ·
  unfold putCells
  have hq2 : q < d.size * 3 := by rw [hd, h5]; exact hq
  rw [Array.getElem?_mapIdx, h6 q hq]
  simp only [Option.map_some, Sort.size_flatK]
  rw [if_pos ⟨Nat.zero_le _, by omega⟩, Nat.sub_zero, Sort.get_flatK _ _ _ _ hq2]
  rfl
end Go.Proofs.YtmofiicjaldmiaaGreatDoor.SwH
end
section
namespace Go.Proofs.YtmofiicjaldmiaaGreatDoor.SwL
open Go.RowKit Go.Shelf YtmofiicjaldmiaaGreatDoorW.PrintWords YtmofiicjaldmiaaGreatDoorW.PrintLast SvA SvB SvC SvD SvE SvF SvG SvH SvI SvJ SvK SvL SvM SvN SvO SvP SvQ SvR SvS SvT SvU SvV SvW SvX SvY SvZ SwA SwB SwC SwD SwE SwF SwG SwI SwJ SwK SwH
set_option linter.unusedVariables false
set_option linter.unusedSimpArgs false
open Go.Lib
def infoS (e : EN) : IN := ⟨e.hd.name, e.hd.ver, e.hd.size⟩
theorem info49 : (Tryz.prog.info? 49).map (fun i => (i.zero, i.size, i.bytes)) = some (some (.agg #[.string ⟨#[]⟩, .int .i64 0, .int .i64 0]), 3, 32) := by kernel_rfl
def ListP (w : World) (es : List EN) (e : Ending) (w' : World) : Prop := ∃ (z : Sl) (o : Nat → Nat) (l : List IN), e = .returned (.tuple #[z.enc, .int .i64 0]) ∧ Ow inK 49 w' o 2 z l ∧ (∀ k, k < w.heap.size → o k = 0) ∧ Below w.heap.size w w' ∧ l.Perm (es.map infoS) ∧ l.Pairwise (fun x y => ltOf cfS y x = false)
theorem sortedP (l : List IN) (d : Array IN) (hp : Sort.PermIn 0 l.length l.toArray d) (hs : Sort.SortedIn (ltOf cfS) 0 l.length d) : d.size = l.length ∧ d.toList.Perm l ∧ d.toList.Pairwise (fun x y => ltOf cfS y x = false) := by
 obtain ⟨hsz, _, hperm⟩ := hp
 have hsz' : d.size = l.length := by rw [hsz]; simp
 have e1 : d.extract 0 l.length = d := by rw [← hsz']; exact Array.extract_size
 have e2 : l.toArray.extract 0 l.length = l.toArray := by
  have h0 : l.length = l.toArray.size := by simp
  rw [h0]; exact Array.extract_size
 rw [e1, e2] at hperm
 refine ⟨hsz', by simpa using hperm, ?_⟩
 rw [List.pairwise_iff_getElem]
 intro i j hi hj hij
 have hi' : i < d.size := by simpa using hi
 have hj' : j < d.size := by simpa using hj
 have := hs i j (Nat.zero_le _) hij (by omega)
 rw [getElem!_pos d j hj', getElem!_pos d i hi'] at this
 simpa using this
set_option maxRecDepth 100000 in
set_option maxHeartbeats 2000000 in
theorem list_yes (w : World) (own : Nat → Nat) (t g gs : Nat) (ga : Nat → Nat) (S : SV) (H : SvMem w own t g gs ga S) (i : Nat) (hi : i < 8) (hd : S.dead = false) (hA : AOk S i) : Calls Tryz.prog 25 #[pt g, .int .i64 ((i : Int) + 1)] w (ListP w (S.ar i).ents) := by
 have HC := Lib.hid (area_yes w own t g gs ga S H i hi hd)
 obtain ⟨z, ps, hg, hb, hs, he⟩ := H.ar i hi
 have c4 : w.cell? ⟨ga i, 4, none⟩ = some (.slice z.A z.n z.c) := Blk.cell (i := 4) hb rfl
 have hpl : ps.length = z.n := (ow_len hs).1
 have hel : (S.ar i).ents.length = z.n := by rw [← he.1, List.length_map]; exact hpl
 have hn30 : z.n < 2 ^ 30 := by rw [← hel]; exact hA.el
 have HO := Lib.hid hs
 have HE := Lib.hid he
 have HH := Lib.hid (fun (h : 0 < z.n) => ow_head hs h)
 have HEO := Lib.hid hA.eo
 have HP := Lib.hid hpl
 have HQ := Lib.hid hel
 clear hs he hb hg H hA hd hpl hel
 obtain ⟨A, n, c⟩ := z
 dsimp only at *
 go_enter Tryz.func25, Tryz.ntmps25
 go_wp2_with (go_at_call 49; refine HC.out.mono ?_; rintro e w' ⟨rfl, rfl⟩)
 go_loopw [25, 8, 10] (fun v u _ wr => ∃ k : Nat, k ≤ n ∧ v = .int .i64 (k : Int) ∧ ∃ (s : Sl) (o : Nat → Nat), u = .slice s.A s.n s.c ∧ Ow inK 49 wr o 2 s (((S.ar i).ents.take k).map infoS) ∧ Kp (fun q => q = 2) w (fun _ => 0) wr o) (fun v _ _ _ => n - (intOf v).toNat)
 case atStart => exact ⟨0, by omega, rfl, nilS, fun _ => 0, rfl, Kd.R_nil _ _ _ _ _, Kp.refl _ _ _⟩
 case round =>
  obtain ⟨k, hk, rfl, s, o, rfl, hs, hkp⟩ := hrel
  have hb := kp_below hkp (by decide)
  by_cases hlt : k < n
  ·
   have dl : decide ((k : Int) < (n : Int)) = true := by simp; omega
   have hkn : (k : Int) < (n : Int) := by omega
   have hpl := HP.out
   obtain ⟨gb, hz⟩ := HH.out (by omega)
   injection hz with hA _ _
   subst hA
   obtain ⟨x, hx⟩ : ∃ x, ps[k]? = some x := ⟨_, List.getElem?_eq_getElem (by omega)⟩
   obtain ⟨e0, e1, e2, e3, e4, e5, e6, e7⟩ := en_at (Kd.C_below (ow_len HO.out).2.2 hb) gb rfl k hlt x hx
   have hxe : (S.ar i).ents[k]? = some x.en := by rw [← HE.out.1, List.getElem?_map, hx]; rfl
   have hx0 := (HEO.out x.en (List.mem_of_getElem? hxe)).1
   have hx3 : 0 ≤ x.en.hd.ver ∧ x.en.hd.ver < 4294967296 := hx0.v0
   have HU := Lib.hid (show ((S.ar i).ents.take (k + 1)).map infoS = ((S.ar i).ents.take k).map infoS ++ [infoS x.en] by
    have : (S.ar i).ents.take (k + 1) = (S.ar i).ents.take k ++ [x.en] := by
     rw [List.take_succ_eq_append_getElem (List.getElem?_eq_some_iff.1 hxe).1, (List.getElem?_eq_some_iff.1 hxe).2]
    rw [this, List.map_append]; rfl)
   have HX := Lib.hid (show infoS x.en = ⟨x.en.hd.name, x.en.hd.ver, x.en.hd.size⟩ from rfl)
   have hll : (((S.ar i).ents.take k).map infoS).length < 2 ^ 31 := by rw [List.length_map, List.length_take]; omega
   clear hx hxe hpl hx0
   obtain ⟨⟨⟨x1, x2, x3, x4, x5, x6⟩, x7, xs⟩, ⟨x8, x9, x10⟩⟩ := x
   dsimp only at *
   generalize hus : ((S.ar i).ents.take k).map infoS = u at *
   have HB := Lib.hid hkp
   have hk1 : Kp (fun q => q = 2) wr o (wr.alloc (.cells #[.int .i64 x1, .string x2, .int .u32 x3, .int .i64 x4, .int .u32 x5, .int .i64 x6, .int .i64 x7, .slice x8 x9 x10] 107)) (tagged wr o 0) := Kp.below (ba _) 0
   have HS := Lib.hid (hs.keep (Kp.below (ts := fun _ => False) (ba (w := wr) (.cells #[.int .i64 x1, .string x2, .int .u32 x3, .int .i64 x4, .int .u32 x5, .int .i64 x6, .int .i64 x7, .slice x8 x9 x10] 107)) 0) (fun q => q))
   have HK := Lib.hid (hkp.trans hk1)
   have hz1 : (wr.alloc (.cells #[.int .i64 x1, .string x2, .int .u32 x3, .int .i64 x4, .int .u32 x5, .int .i64 x6, .int .i64 x7, .slice x8 x9 x10] 107)).heap.size = wr.heap.size + 1 := by simp
   clear hb hus hkp hs hk1
   go_wp2_with (at_builtin; refine ow_append inK (W := wr.alloc (.cells #[.int .i64 x1, .string x2, .int .u32 x3, .int .i64 x4, .int .u32 x5, .int .i64 x6, .int .i64 x7, .slice x8 x9 x10] 107)) rfl (.tmp 29) (.tmp 41) 45 49 (.agg #[.string ⟨#[]⟩, .int .i64 0, .int .i64 0]) 32 rfl Tryz.underlying45 info49 rfl (by decide) (by decide) s u ⟨x2, x3, x4⟩ [.string x2, .int .i64 x3, .int .i64 x4] (tagged wr o 0) 2 rfl (by rw [hz1]; rfl) rfl HS.out (by omega) ?_; intro s1 w3 h5 h6; have HR := Lib.hid (And.intro h5 h6); clear h5 h6; unfold Sl.enc)
   go_roundw
   case rel => exact ⟨k + 1, by omega, by go_num, s1, _, rfl, by rw [HU.out, HX.out]; exact HR.out.1, HK.out.trans HR.out.2⟩
   case measure => simp [intOf]; omega
  ·
   have dl : decide ((k : Int) < (n : Int)) = false := by simp; omega
   have hel := HQ.out
   have e1 : (S.ar i).ents.take k = (S.ar i).ents := List.take_of_length_le (by omega)
   rw [e1] at hs
   generalize hl : (S.ar i).ents.map infoS = l at *
   have HS := Lib.hid hs
   have HK := Lib.hid hkp
   have hl1 := (ow_len hs).1
   have hln : l.length < 2 ^ 31 := by rw [← hl, List.length_map]; omega
   clear hel e1 hs hkp
   obtain ⟨zA, zn, zc⟩ := s
   dsimp only at *
   by_cases h0 : zn = 0
   ·
    subst h0
    have HSN := Lib.hid (fun W => AnyF.slices_SortFunc_none Tryz.sortInfo zA zc (.func (.func 60) #[] #[]) W)
    go_wp2_with (go_at_call 59; refine (HSN.out _).mono ?_; rintro e w' ⟨rfl, rfl⟩)
    go_ret2
    have hl0 : l = [] := List.length_eq_zero_iff.1 hl1
    have := HS.out
    rw [hl0] at this hl
    exact ⟨⟨zA, 0, zc⟩, o, [], rfl, this, fun k hk => (HK.out.block k hk (by decide)).1, kp_below HK.out (by decide), by rw [hl], List.Pairwise.nil⟩
   ·
    obtain ⟨sb, hsb⟩ := ow_head HS.out (by show 0 < zn; omega)
    injection hsb with hsb _ _
    subst hsb
    subst hl1
    have hH := ow_holds HS.out
    have hso := Lib.hid (AnyQ.slices_SortFunc Tryz.sortInfo 3 (fun _ => by kernel_rfl) (fun _ => by kernel_rfl) IN.cells (fun _ => rfl) (fun x v hv => inK.K_one (w := wr) (x := x) rfl v hv) cfS swoS 60 #[] sb 0 zc l.toArray wr (enters 60 Tryz.func60 (by kernel_rfl) rfl) (fun m os dk _ x y => by rw [Array.append_empty]; exact less_ok x y _) hH (ow_blk HS.out sb rfl).2 (by rw [List.size_toArray]; omega))
    rw [List.size_toArray] at hso
    go_wp2_with (go_at_call 59; refine Calls.mono hso.out ?_; rintro e w' ⟨rfl, d, m, os, hp, hsd, rfl⟩)
    go_ret2
    obtain ⟨s1, s2, s3⟩ := sortedP l d hp hsd
    have hbo := ow_blk HS.out sb rfl
    have hsb0 : w.heap.size ≤ sb := by
     rcases Nat.lt_or_ge sb w.heap.size with h | h
     ·
      have := (HK.out.block sb h (by decide)).1
      rw [hbo.1] at this
      cases this
     · exact h
    exact ⟨⟨some ⟨sb, 0, none⟩, l.length, zc⟩, _, d.toList, rfl, ow_sorted HS.out m d os s1, fun k hk => by rw [tagged_old (Nat.lt_of_lt_of_le hk HK.out.size)]; exact (HK.out.block k hk (by decide)).1, (kp_below HK.out (by decide)).trans (below_sortK IN.cells 3 wr sb m d os _ hsb0 HK.out.size), by rw [hl]; exact s2, s3⟩
end Go.Proofs.YtmofiicjaldmiaaGreatDoor.SwL
end
section
namespace Go.Proofs.YtmofiicjaldmiaaGreatDoor.SwM
open Go.RowKit Go.Shelf YtmofiicjaldmiaaGreatDoorW.PrintWords YtmofiicjaldmiaaGreatDoorW.PrintLast SvA SvB SvC SvD SvE SvF SvG SvH SvI SvJ SvK SvL SvM SvN SvO SvP SvQ SvR SvS SvT SvU SvV SvW SvX SvY SvZ SwA SwB SwC SwD SwE SwF SwG SwI SwJ SwK SwH SwL
set_option linter.unusedVariables false
set_option linter.unusedSimpArgs false
theorem free_cnt (frm : Nat) : ∀ (d : Nat) (L : List Int), L.Nodup → (∀ x ∈ L, (frm : Int) ≤ x ∧ x < (frm : Int) + d) → ((List.range' frm d).filter (fun n : Nat => !L.contains (n : Int))).length + L.length = d := by
 intro d
 induction d with
 | zero =>
  intro L hn hb
  have : L = [] := List.eq_nil_iff_forall_not_mem.2 (fun x hx => by have := hb x hx; omega)
  subst this
  rfl
 | succ d ih =>
  intro L hn hb
  rw [List.range'_concat, List.filter_append, List.length_append]
  by_cases hm : ((frm + d : Nat) : Int) ∈ L
  ·
   have h1 := ih (L.erase ((frm + d : Nat) : Int)) (hn.erase _) (fun x hx => by
    have h2 := (List.Nodup.mem_erase_iff hn).1 hx
    have h3 := hb x h2.2
    have h4 := h2.1
    omega)
   have h2 : (List.range' frm d).filter (fun n : Nat => !L.contains (n : Int)) = (List.range' frm d).filter (fun n : Nat => !(L.erase ((frm + d : Nat) : Int)).contains (n : Int)) := by
    apply List.filter_congr
    intro n hnm
    have h3 := List.mem_range'_1.1 hnm
    congr 1
    rw [Bool.eq_iff_iff, List.contains_iff_mem, List.contains_iff_mem, List.Nodup.mem_erase_iff hn]
    exact ⟨fun h => ⟨by omega, h⟩, fun h => h.2⟩
   rw [h2]
   have h5 : (List.filter (fun n : Nat => !L.contains (n : Int)) [frm + 1 * d]).length = 0 := by
    rw [Nat.one_mul, List.filter_cons, if_neg (by simp; exact (by simpa using hm))]
    rfl
   rw [h5]
   have h6 := List.length_erase_of_mem hm
   have h7 := List.length_pos_of_mem hm
   omega
  ·
   have h1 := ih L hn (fun x hx => by
    have h3 := hb x hx
    have : x ≠ ((frm + d : Nat) : Int) := fun e => hm (e ▸ hx)
    omega)
   have h5 : (List.filter (fun n : Nat => !L.contains (n : Int)) [frm + 1 * d]).length = 1 := by
    rw [Nat.one_mul, List.filter_cons, if_pos (by simp; exact (by simpa using hm))]
    rfl
   rw [h5]
   omega
theorem nodup_le {L : List Int} (h : L.Nodup) {lo hi : Nat} (hb : ∀ x ∈ L, (lo : Int) ≤ x ∧ x < hi) : L.length ≤ hi - lo := by
 by_cases hl : lo ≤ hi
 ·
  have := free_cnt lo (hi - lo) L h (fun x hx => by have := hb x hx; omega)
  omega
 ·
  have : L = [] := List.eq_nil_iff_forall_not_mem.2 (fun x hx => by have := hb x hx; omega)
  subst this
  simp
def secsOf (es : List EN) : List Int := es.flatMap (·.secs)
theorem usedS_eq (es : List EN) : usedS es = es.length + (secsOf es).length := by
 unfold usedS secsOf
 induction es with
 | nil => rfl
 | cons e es ih =>
  simp only [List.map_cons, List.sum_cons, List.length_cons, List.flatMap_cons, List.length_append, ih]
  omega
theorem any_at (es : List EN) (v : Int) : es.any (fun e => e.at_ == v) = (es.map (·.at_)).contains v := by
 induction es with
 | nil => rfl
 | cons e es ih => rw [List.any_cons, List.map_cons, List.contains_cons, ih, BEq.comm]
theorem any_secs (es : List EN) (v : Int) : es.any (fun e => e.secs.contains v) = (secsOf es).contains v := by
 rw [Bool.eq_iff_iff, List.any_eq_true, List.contains_iff_mem]
 unfold secsOf
 rw [List.mem_flatMap]
 exact ⟨fun ⟨e, h1, h2⟩ => ⟨e, h1, List.contains_iff_mem.1 h2⟩, fun ⟨e, h1, h2⟩ => ⟨e, h1, List.contains_iff_mem.2 h2⟩⟩
structure GA (n i m : Nat) (a : AR) : Prop where
 ten : a.ten = i + 1
 frm : a.frm = i * (n / 8)
 sec : a.sec = n / 8
 hds : a.heads = (n / 8 + 7) / 8
 nd : (a.ents.map (·.hd.name)).Nodup
 ad : (a.ents.map (·.at_)).Nodup
 ar : ∀ e ∈ a.ents, 0 ≤ e.at_ ∧ e.at_ < (a.heads : Int)
 sd : (secsOf a.ents).Nodup
 sr : ∀ e ∈ a.ents, ∀ x ∈ e.secs, (a.heads : Int) ≤ x ∧ x < (a.sec : Int)
 ok : ∀ e ∈ a.ents, e.hd.ok ∧ 1 ≤ e.hd.ver ∧ e.hd.ver ≤ (m : Int) ∧ nameOk e.hd.name = true ∧ e.hd.size ≤ 131072 ∧ e.secs.length = many e.hd.size.toNat
theorem GA.freeH_len {n i m : Nat} {a : AR} (h : GA n i m a) : (freeH a).length = if a.ents.length < a.heads then 1 else 0 := by
 have h1 := free_cnt 0 a.heads (a.ents.map (·.at_)) h.ad (fun x hx => by
  obtain ⟨e, he, rfl⟩ := List.mem_map.1 hx
  have := h.ar e he
  omega)
 have h2 : (fun n : Nat => !a.ents.any (fun e => e.at_ == (n : Int))) = fun n : Nat => !(a.ents.map (·.at_)).contains (n : Int) := by
  funext n
  rw [any_at]
 unfold freeH freeS
 rw [List.length_map, List.length_take, Nat.sub_zero, h2]
 rw [List.length_map] at h1
 split <;> omega
theorem GA.freeD_len {n i m : Nat} {a : AR} (h : GA n i m a) (k : Nat) : (freeD a k).length = min k (a.sec - a.heads - (secsOf a.ents).length) := by
 have hh : a.heads ≤ a.sec := by rw [h.hds, h.sec]; omega
 have h1 := free_cnt a.heads (a.sec - a.heads) (secsOf a.ents) h.sd (fun x hx => by
  obtain ⟨e, he, hx⟩ := List.mem_flatMap.1 hx
  have := h.sr e he x hx
  omega)
 have h2 : (fun n : Nat => !a.ents.any (fun e => e.secs.contains (n : Int))) = fun n : Nat => !(secsOf a.ents).contains (n : Int) := by
  funext n
  rw [any_secs]
 unfold freeD freeS
 rw [List.length_map, List.length_take, h2]
 omega
theorem GA.secs_le {n i m : Nat} {a : AR} (h : GA n i m a) : (secsOf a.ents).length ≤ a.sec - a.heads := nodup_le h.sd (fun x hx => by
 obtain ⟨e, he, hx⟩ := List.mem_flatMap.1 hx
 exact h.sr e he x hx)
theorem GA.len_le {n i m : Nat} {a : AR} (h : GA n i m a) : a.ents.length ≤ a.heads := by
 have := nodup_le h.ad (lo := 0) (hi := a.heads) (fun x hx => by
  obtain ⟨e, he, rfl⟩ := List.mem_map.1 hx
  have := h.ar e he
  omega)
 rw [List.length_map] at this
 omega
theorem GA.room {n i m : Nat} {a : AR} (h : GA n i m a) (k : Nat) : roomS a k = true ↔ a.ents.length < a.heads ∧ (secsOf a.ents).length + many k ≤ a.sec - a.heads := by
 have h1 := h.secs_le
 unfold roomS
 rw [Bool.and_eq_true, decide_eq_true_eq, decide_eq_true_eq, h.freeH_len, h.freeD_len]
 constructor
 ·
  rintro ⟨p, q⟩
  split at p
  · exact ⟨by assumption, by omega⟩
  · omega
 ·
  rintro ⟨p, q⟩
  rw [if_pos p]
  exact ⟨rfl, by omega⟩
theorem secsOf_app (l : List EN) (e : EN) : secsOf (l ++ [e]) = secsOf l ++ e.secs := by simp [secsOf]
theorem secsOf_sub {l l' : List EN} (h : l.Sublist l') : (secsOf l).Sublist (secsOf l') := by
 induction h with
 | slnil => exact List.Sublist.refl _
 | cons a _ ih => exact ih.trans (List.sublist_append_right _ _)
 | cons_cons a _ ih => exact List.Sublist.append_left ih _
theorem freeD_nodup (a : AR) (k : Nat) : (freeD a k).Nodup := by
 unfold freeD freeS List.Nodup
 rw [List.pairwise_map]
 have h : (List.range' a.heads (a.sec - a.heads)).Nodup := List.nodup_range'
 exact ((List.Pairwise.sublist (List.filter_sublist) h).sublist (List.take_sublist _ _)).imp (fun h => by omega)
theorem GA.mono {n i m m' : Nat} {a : AR} (h : GA n i m a) (hm : m ≤ m') : GA n i m' a := ⟨h.ten, h.frm, h.sec, h.hds, h.nd, h.ad, h.ar, h.sd, h.sr, fun e he => by obtain ⟨a, b, c, d⟩ := h.ok e he; exact ⟨a, b, by omega, d⟩⟩
theorem GA.sub {n i m : Nat} {a : AR} (h : GA n i m a) {l : List EN} (hl : l.Sublist a.ents) : GA n i m { a with ents := l } :=
  ⟨h.ten, h.frm, h.sec, h.hds, h.nd.sublist (hl.map _), h.ad.sublist (hl.map _), fun e he => h.ar e (hl.mem he), h.sd.sublist (secsOf_sub hl), fun e he => h.sr e (hl.mem he), fun e he => h.ok e (hl.mem he)⟩
theorem nodup_snoc {α : Type} {l : List α} {x : α} (h : l.Nodup) (hx : x ∉ l) : (l ++ [x]).Nodup := by
 rw [List.nodup_append]
 exact ⟨h, by simp, fun a ha b hb => by simp at hb; subst hb; exact fun e => hx (e ▸ ha)⟩
theorem GA.push {n i m : Nat} {a : AR} (h : GA n i m a) (e : EN) (h1 : ∀ x ∈ a.ents, x.hd.name ≠ e.hd.name) (h2 : ∀ x ∈ a.ents, x.at_ ≠ e.at_) (h3 : 0 ≤ e.at_ ∧ e.at_ < (a.heads : Int)) (h4 : e.secs.Nodup) (h5 : ∀ x ∈ e.secs, ∀ y ∈ a.ents, x ∉ y.secs) (h6 : ∀ x ∈ e.secs, (a.heads : Int) ≤ x ∧ x < (a.sec : Int))
  (h7 : e.hd.ok ∧ 1 ≤ e.hd.ver ∧ e.hd.ver ≤ (m : Int) ∧ nameOk e.hd.name = true ∧ e.hd.size ≤ 131072 ∧ e.secs.length = many e.hd.size.toNat) : GA n i m { a with ents := a.ents ++ [e] } := by
 refine ⟨h.ten, h.frm, h.sec, h.hds, ?_, ?_, fun x hx => ?_, ?_, fun x hx => ?_, fun x hx => ?_⟩
 ·
  rw [List.map_append]
  refine nodup_snoc h.nd (fun hm => ?_)
  obtain ⟨x, hx, hn⟩ := List.mem_map.1 hm
  exact h1 x hx hn
 ·
  rw [List.map_append]
  refine nodup_snoc h.ad (fun hm => ?_)
  obtain ⟨x, hx, hn⟩ := List.mem_map.1 hm
  exact h2 x hx hn
 ·
  rcases List.mem_append.1 hx with hx | hx
  · exact h.ar x hx
  · simp at hx; subst hx; exact h3
 ·
  show (secsOf (a.ents ++ [e])).Nodup
  rw [secsOf_app, List.nodup_append]
  refine ⟨h.sd, h4, fun x hx y hy he => ?_⟩
  subst he
  obtain ⟨z, hz, hxz⟩ := List.mem_flatMap.1 hx
  exact h5 x hy z hz hxz
 ·
  rcases List.mem_append.1 hx with hx | hx
  · exact h.sr x hx
  · simp at hx; subst hx; exact h6
 ·
  rcases List.mem_append.1 hx with hx | hx
  · exact h.ok x hx
  · simp at hx; subst hx; exact h7
structure GS (S : SV) (n m : Nat) : Prop where
 dead : S.dead = false
 lim : S.b.lim = false
 pend : S.b.pend = []
 bok : BOk S.b
 bn : S.b.n = n
 hn : n ≤ 4096
 ar : ∀ i, i < 8 → GA n i m (S.ar i)
theorem GS.aok {S : SV} {n m : Nat} (h : GS S n m) (i : Nat) (hi : i < 8) : AOk S i := by
 have H := h.ar i hi
 have hn := h.hn
 have h1 : (S.ar i).heads ≤ (S.ar i).sec := by rw [H.hds, H.sec]; omega
 have h2 := H.len_le
 refine ⟨?_, by rw [H.sec]; omega, h1, by have := H.sec; omega, fun e he => ⟨(H.ok e he).1, ⟨(H.ar e he).1, by have := (H.ar e he).2; omega⟩, fun x hx => by have := H.sr e he x hx; omega, ?_⟩⟩
 ·
  rw [H.frm, H.sec, h.bn]
  have : i * (n / 8) ≤ 7 * (n / 8) := Nat.mul_le_mul (by omega) (Nat.le_refl _)
  omega
 ·
  rw [(H.ok e he).2.2.2.2.2]
  have := (H.ok e he).2.2.2.2.1
  unfold many
  omega
theorem GS.mono {S : SV} {n m m' : Nat} (h : GS S n m) (hm : m ≤ m') : GS S n m' := ⟨h.dead, h.lim, h.pend, h.bok, h.bn, h.hn, fun i hi => (h.ar i hi).mono hm⟩
theorem setE_ar (S : SV) (i : Nat) (es : List EN) (j : Nat) : (SV.setE S i es).ar j = if j = i then { S.ar i with ents := es } else S.ar j := by
 unfold SV.setE
 by_cases h : j = i
 · subst h; rfl
 · simp [h]
theorem setE_setE (S : SV) (i : Nat) (es fs : List EN) : SV.setE (SV.setE S i es) i fs = SV.setE S i fs := by
 unfold SV.setE
 congr 1
 funext j
 by_cases h : j = i <;> simp [h]
theorem GS.setE {S : SV} {n m : Nat} (h : GS S n m) (b : BS) (h1 : b.lim = false) (h2 : b.pend = []) (h3 : BOk b) (h4 : b.n = n) (i : Nat) (es : List EN) (hg : GA n i m { S.ar i with ents := es }) : GS (SV.setE (SV.setB S b) i es) n m := by
 refine ⟨h.dead, h1, h2, h3, h4, h.hn, fun j hj => ?_⟩
 rw [setE_ar]
 by_cases e : j = i
 · rw [if_pos e, e]; exact hg
 · rw [if_neg e]; exact h.ar j hj
theorem delS_eq (S : SV) (i k : Nat) (e : EN) : delS S i k e = SV.setE (SV.setB S (BS.sync (S.b.put (((S.ar i).frm + e.at_.toNat : Nat) : Int) (headS e.hd 0)))) i ((S.ar i).ents.eraseIdx k) := rfl
theorem GS.del {S : SV} {n m : Nat} (h : GS S n m) (i : Nat) (hi : i < 8) (k : Nat) (e : EN) (hb : BOk (delS S i k e).b) (hbn : (delS S i k e).b.n = n) : GS (delS S i k e) n m := by
 rw [delS_eq] at hb hbn ⊢
 refine h.setE _ ?_ ?_ hb hbn i _ ((h.ar i hi).sub (List.eraseIdx_sublist _ _))
 · exact h.lim
 · rfl
theorem erase_name {α : Type} {f : EN → α} : ∀ {l : List EN} {k : Nat} {e : EN}, (l.map f).Nodup → l[k]? = some e → ∀ x ∈ l.eraseIdx k, f x ≠ f e := by
 intro l
 induction l with
 | nil => intro k e h1 h2 x hx; simp at hx
 | cons y l ih =>
  intro k e h1 h2 x hx
  rw [List.map_cons, List.nodup_cons] at h1
  cases k with
  | zero =>
   simp at h2 hx
   subst h2
   exact fun he => h1.1 (by rw [← he]; exact List.mem_map.2 ⟨x, hx, rfl⟩)
  | succ k =>
   simp at h2
   rw [List.eraseIdx_cons_succ] at hx
   rcases List.mem_cons.1 hx with hx | hx
   ·
    subst hx
    exact fun he => h1.1 (by rw [he]; exact List.mem_map.2 ⟨e, List.mem_of_getElem? h2, rfl⟩)
   · exact ih h1.2 h2 x hx
def oldE (old : Option (Nat × EN)) (es : List EN) : List EN := match old with | none => es | some (k, _) => es.eraseIdx k
def verN (old : Option (Nat × EN)) : Int := match old with | none => 1 | some (_, x) => x.hd.ver + 1
def putB (S : SV) (i : Nat) (old : Option (Nat × EN)) (name : ByteArray) (data : List Int) : BS :=
 let b := layB (S.ar i) (newE (S.ar i) ((i : Int) + 1) name (verN old) data) data S.b
 match old with | none => b | some (_, x) => BS.sync (b.put (((S.ar i).frm + x.at_.toNat : Nat) : Int) (headS x.hd 0))
theorem putS_eq (S : SV) (i : Nat) (old : Option (Nat × EN)) (name : ByteArray) (data : List Int) : putS S i old name data = SV.setE (SV.setB S (putB S i old name data)) i (oldE old (S.ar i).ents ++ [newE (S.ar i) ((i : Int) + 1) name (verN old) data]) := by
 rcases old with _ | ⟨k, x⟩
 · rfl
 ·
  show SV.setE (delS (SV.setB S (layB (S.ar i) (newE (S.ar i) ((i : Int) + 1) name (x.hd.ver + 1) data) data S.b)) i k x) i (((delS (SV.setB S (layB (S.ar i) (newE (S.ar i) ((i : Int) + 1) name (x.hd.ver + 1) data) data S.b)) i k x).ar i).ents ++ [newE (S.ar i) ((i : Int) + 1) name (x.hd.ver + 1) data]) = _
  rw [delS_eq, setE_setE, setE_ar, if_pos rfl]
  rfl
theorem ba_beq (a b : ByteArray) : (a == b) = true ↔ a = b := by
 cases a with | mk x => cases b with | mk y =>
 show (x == y) = true ↔ _
 simp
theorem findI_pos {α : Type} {p : α → Bool} : ∀ {l : List α} {k : Nat} {x : α}, findI p l = (k : Int) → l[k]? = some x → p x = true := by
 intro l
 induction l with
 | nil => intro k x h h2; simp at h2
 | cons y l ih =>
  intro k x h h2
  simp only [findI] at h
  by_cases hy : p y = true
  ·
   rw [if_pos hy] at h
   obtain rfl : k = 0 := by omega
   simp at h2
   subst h2
   exact hy
  ·
   rw [if_neg hy] at h
   have hb := findI_bd p l
   split at h
   · omega
   ·
    obtain ⟨j, rfl⟩ : ∃ j, k = j + 1 := ⟨k - 1, by omega⟩
    exact ih (k := j) (by omega) (by simpa using h2)
theorem oldS_name {a : AR} {name : ByteArray} {k : Nat} {e : EN} (h : oldS a name = some (k, e)) : e.hd.name = name ∧ a.ents[k]? = some e := by
 obtain ⟨h1, h2⟩ := oldS_some h
 exact ⟨(ba_beq _ _).1 (findI_pos (p := fun e : EN => e.hd.name == name) h1 h2), h2⟩
theorem oldS_no {a : AR} {name : ByteArray} (h : oldS a name = none) : ∀ e ∈ a.ents, e.hd.name ≠ name := by
 have h1 := oldS_none h
 have h2 := findI_nn (p := fun e : EN => e.hd.name == name) a.ents
 intro e he hn
 have : 0 ≤ findI (fun e : EN => e.hd.name == name) a.ents := h2.2 (List.any_eq_true.2 ⟨e, he, by rw [hn]; exact (ba_beq _ _).2 rfl⟩)
 omega
theorem putB_lim (S : SV) (i : Nat) (old : Option (Nat × EN)) (name : ByteArray) (data : List Int) (h : S.b.lim = false) : (putB S i old name data).lim = false ∧ (putB S i old name data).pend = [] := by
 have h1 := layB_lim (S.ar i) (newE (S.ar i) ((i : Int) + 1) name (verN old) data) data S.b h
 have h2 := layB_pend (S.ar i) (newE (S.ar i) ((i : Int) + 1) name (verN old) data) data S.b
 unfold putB
 generalize layB (S.ar i) (newE (S.ar i) ((i : Int) + 1) name (verN old) data) data S.b = b at *
 rcases old with _ | ⟨k, x⟩
 · exact ⟨h1, h2⟩
 · exact ⟨h1, rfl⟩
theorem headD_mem {l : List Int} (h : l ≠ []) : l.headD 0 ∈ l := by cases l with | nil => exact absurd rfl h | cons x l => exact List.mem_cons_self
theorem GS.put {S : SV} {n m : Nat} (h : GS S n m) (i : Nat) (hi : i < 8) (name : ByteArray) (hok : nameOk name = true) (data : List Int) (hl : data.length ≤ 131072) (hr : roomS (S.ar i) data.length = true) (hm : m + 1 < 4294967296)
  (hb : BOk (putS S i (oldS (S.ar i) name) name data).b) (hbn : (putS S i (oldS (S.ar i) name) name data).b.n = n) : GS (putS S i (oldS (S.ar i) name) name data) n (m + 1) := by
 have H := (h.ar i hi).mono (show m ≤ m + 1 by omega)
 have hr' := (H.room _).1 hr
 have hH : freeH (S.ar i) ≠ [] := fun e => by have := H.freeH_len; rw [if_pos hr'.1, e] at this; cases this
 have hD : (freeD (S.ar i) (many data.length)).length = many data.length := by rw [H.freeD_len]; omega
 have hHm := freeH_mem (headD_mem hH)
 have hhs : (S.ar i).heads ≤ (S.ar i).sec := by rw [H.hds, H.sec]; omega
 have hs16 : (S.ar i).sec < 65536 := by have := h.hn; rw [H.sec]; omega
 rw [putS_eq] at hb hbn ⊢
 have hlp := putB_lim S i (oldS (S.ar i) name) name data h.lim
 have hv : 1 ≤ verN (oldS (S.ar i) name) ∧ verN (oldS (S.ar i) name) ≤ ((m + 1 : Nat) : Int) := by
  rcases ho : oldS (S.ar i) name with _ | ⟨k, x⟩
  · exact ⟨by decide, by show (1 : Int) ≤ _; omega⟩
  ·
   have := (h.ar i hi).ok x (List.mem_of_getElem? (oldS_name ho).2)
   exact ⟨by show 1 ≤ x.hd.ver + 1; omega, by show x.hd.ver + 1 ≤ _; omega⟩
 have hsub : (oldE (oldS (S.ar i) name) (S.ar i).ents).Sublist (S.ar i).ents := by
  rcases oldS (S.ar i) name with _ | ⟨k, x⟩
  · exact List.Sublist.refl _
  · exact List.eraseIdx_sublist _ _
 refine GS.setE (h.mono (by omega)) _ hlp.1 hlp.2 hb hbn i _ ?_
 refine (H.sub hsub).push _ (fun x hx => ?_) (fun x hx => hHm.2.2 x (hsub.mem hx)) ⟨hHm.1, hHm.2.1⟩ (freeD_nodup _ _) (fun x hx y hy => (freeD_mem hx).2.2 y (hsub.mem hy)) (fun x hx => ⟨(freeD_mem hx).1, (freeD_mem hx).2.1⟩) ⟨⟨?_, ?_, ?_, ?_, ?_, ?_⟩, hv.1, hv.2, hok, ?_, ?_⟩
 ·
  show x.hd.name ≠ name
  rcases ho : oldS (S.ar i) name with _ | ⟨k, y⟩
  ·
   rw [ho] at hx
   exact oldS_no ho x hx
  ·
   rw [ho] at hx
   obtain ⟨e1, e2⟩ := oldS_name ho
   have := erase_name (f := fun e : EN => e.hd.name) H.nd e2 x hx
   rw [← e1]
   exact this
 ·
  show (0 : Int) ≤ (i : Int) + 1 ∧ (i : Int) + 1 < 256
  omega
 · exact nameOk_size hok
 ·
  show (0 : Int) ≤ verN _ ∧ verN _ < (4294967296 : Int)
  omega
 ·
  show (0 : Int) ≤ (data.length : Int) ∧ (data.length : Int) < 4294967296
  omega
 · exact xor_u32_bd _ _
 ·
  show 0 ≤ (freeD (S.ar i) (many data.length)).headD 0 ∧ (freeD (S.ar i) (many data.length)).headD 0 < 65536
  by_cases he : freeD (S.ar i) (many data.length) = []
  · rw [he]; exact ⟨by decide, by decide⟩
  ·
   have := freeD_mem (headD_mem he)
   omega
 ·
  show (data.length : Int) ≤ 131072
  omega
 ·
  show (freeD (S.ar i) (many data.length)).length = many ((data.length : Int).toNat)
  rw [Int.toNat_natCast]
  exact hD
end Go.Proofs.YtmofiicjaldmiaaGreatDoor.SwM
end
section
namespace Go.Proofs.YtmofiicjaldmiaaGreatDoor.SwN
open Go.RowKit Go.Shelf YtmofiicjaldmiaaGreatDoorW.PrintWords YtmofiicjaldmiaaGreatDoorW.PrintLast SvA SvB SvC SvD SvE SvF SvG SvH SvI SvJ SvK SvL SvM SvN SvO SvP SvQ SvR SvS SvT SvU SvV SvW SvX SvY SvZ SwA SwB SwC SwD SwE SwF SwG SwI SwJ SwK SwH SwL SwM
set_option linter.unusedVariables false
set_option linter.unusedSimpArgs false
theorem read_put (b : BS) (i k : Nat) (d : List Int) : (b.put (i : Int) d).read k = if k = i then d else b.read k := by
 unfold BS.read BS.put
 simp only [List.reverse_append, List.reverse_cons, List.reverse_nil, List.nil_append, List.singleton_append, List.find?_cons]
 by_cases h : k = i
 ·
  subst h
  simp
 ·
  rw [if_neg h]
  have : ((i : Int) == (k : Int)) = false := beq_eq_false_iff_ne.2 (by omega)
  rw [this]
theorem over_get {xs d : List Int} {o : Nat} (h : o + d.length ≤ xs.length) (q : Nat) : (over xs o d)[q]? = if q < o then xs[q]? else if q < o + d.length then d[q - o]? else xs[q]? := by
 unfold over
 have h1 : (xs.take o).length = o := by rw [List.length_take]; omega
 by_cases h2 : q < o
 · rw [if_pos h2, List.append_assoc, List.getElem?_append_left (by omega), List.getElem?_take_of_lt h2]
 ·
  rw [if_neg h2]
  by_cases h3 : q < o + d.length
  · rw [if_pos h3, List.append_assoc, List.getElem?_append_right (by omega), h1, List.getElem?_append_left (by omega)]
  ·
   rw [if_neg h3, List.getElem?_append_right (by rw [List.length_append]; omega), List.length_append, h1, List.getElem?_drop]
   congr 1
   omega
theorem secOf_get (img : List Int) (k j : Nat) (hj : j < 512) : (secOf img k)[j]? = img[512 * k + j]? := by
 unfold secOf
 rw [List.getElem?_take_of_lt hj, List.getElem?_drop]
theorem secOf_len (img : List Int) (k : Nat) : (secOf img k).length ≤ 512 := by
 unfold secOf
 rw [List.length_take]
 omega
theorem secOf_paste (img : List Int) (q : Int × List Int) (h0 : 0 ≤ q.1) (h1 : 512 * (q.1 + 1) ≤ img.length) (h2 : q.2.length = 512) (k : Nat) : secOf (paste img q) k = if (q.1 == (k : Int)) = true then q.2 else secOf img k := by
 obtain ⟨i, d⟩ := q
 obtain ⟨i, rfl⟩ := Int.eq_ofNat_of_zero_le h0
 dsimp only at *
 have eR : (if ((i : Int) == (k : Int)) = true then d else secOf img k) = if i = k then d else secOf img k := by
  by_cases hk : i = k
  · subst hk; simp
  · rw [if_neg hk, if_neg (by simp; omega)]
 rw [eR]
 apply List.ext_getElem?
 intro j
 have e1 := secOf_len (paste img ((i : Int), d)) k
 have e2 := secOf_len img k
 by_cases hj : j < 512
 ·
  rw [secOf_get _ _ _ hj]
  unfold paste
  dsimp only
  rw [over_get (by rw [h2]; omega), Int.toNat_natCast, h2]
  by_cases hk : i = k
  ·
   subst hk
   rw [if_pos rfl, if_neg (by omega), if_pos (by omega)]
   congr 1
   omega
  ·
   rw [if_neg hk, secOf_get _ _ _ hj]
   split
   · rfl
   · rw [if_neg (by omega)]
 ·
  rw [List.getElem?_eq_none (by omega)]
  split
  · rw [List.getElem?_eq_none (by omega)]
  · rw [List.getElem?_eq_none (by omega)]
theorem secOf_pasteAll (k : Nat) : ∀ (qs : List (Int × List Int)) (img : List Int), (∀ q ∈ qs, 0 ≤ q.1 ∧ 512 * (q.1 + 1) ≤ img.length ∧ q.2.length = 512) → secOf (pasteAll img qs) k = match qs.reverse.find? (fun q => q.1 == (k : Int)) with | some q => q.2 | none => secOf img k := by
 intro qs
 induction qs with
 | nil => intro img _; rfl
 | cons q qs ih =>
  intro img h
  obtain ⟨h1, h2, h3⟩ := h q List.mem_cons_self
  have hl : (paste img q).length = img.length := over_len (by rw [h3]; omega)
  show secOf (pasteAll (paste img q) qs) k = _
  rw [ih _ (fun r hr => by rw [hl]; exact h r (List.mem_cons_of_mem _ hr)), List.reverse_cons, List.find?_append]
  cases hf : qs.reverse.find? (fun q => q.1 == (k : Int)) with
  | some r => rfl
  | none =>
   simp only [Option.none_or, List.find?_cons, List.find?_nil]
   rw [secOf_paste img q h1 h2 h3]
   cases hq : q.1 == (k : Int) <;> rfl
theorem read_sync {b : BS} (h : BOk b) (k : Nat) : (BS.sync b).read k = b.read k := by
 have h1 := secOf_pasteAll k b.pend b.safe (fun q hq => by
  obtain ⟨a, c, d⟩ := h.ok q hq
  unfold BS.n at c
  exact ⟨a, by omega, d⟩)
 exact h1
theorem u8s_chunk {d : List Int} (h : u8s d) (i : Nat) : u8s (chunk d i) := fun x hx => h x (List.mem_of_mem_drop (List.mem_of_mem_take hx))
theorem chunk_len (d : List Int) (i : Nat) : (chunk d i).length ≤ 510 := by unfold chunk; rw [List.length_take]; omega
theorem layD_ok (a : AR) (data : List Int) (hu : u8s data) : ∀ (l : List Int) (b : BS) (i : Nat), BOk b → b.lim = false → (∀ x ∈ l, a.frm + x.toNat < b.n) → b.pend.length + l.length < 2 ^ 40 → BOk (layD a data b i l).1 ∧ (layD a data b i l).1.n = b.n ∧ (layD a data b i l).1.pend.length = b.pend.length + l.length
 | [], b, i, h, _, _, _ => ⟨h, rfl, rfl⟩
 | x :: l, b, i, h, hl, hx, hp => by
  unfold layD
  rw [if_neg (by rw [full_lim hl]; decide)]
  have h1 := partS_ok (u8s_chunk hu i) (l.headD 0) (chunk_len _ _)
  have h2 := BOk.put h (hx x List.mem_cons_self) h1.1 h1.2 (by simp only [List.length_cons] at hp; omega)
  have h3 : ((b.put ((a.frm + x.toNat : Nat) : Int) (partS (chunk data i) (l.headD 0)))).pend.length = b.pend.length + 1 := by
   show (b.pend ++ [_]).length = _
   rw [List.length_append]; rfl
  obtain ⟨h4, h5, h6⟩ := layD_ok a data hu l _ (i + 1) h2 hl (fun y hy => hx y (List.mem_cons_of_mem _ hy)) (by rw [h3]; simp only [List.length_cons] at hp; omega)
  exact ⟨h4, h5, by rw [h6, h3]; simp only [List.length_cons]; omega⟩
theorem layD_other (a : AR) (data : List Int) (k : Nat) : ∀ (l : List Int) (b : BS) (i : Nat), b.lim = false → (∀ x ∈ l, k ≠ a.frm + x.toNat) → (layD a data b i l).1.read k = b.read k
 | [], b, i, _, _ => rfl
 | x :: l, b, i, hl, hx => by
  unfold layD
  rw [if_neg (by rw [full_lim hl]; decide), layD_other a data k l _ (i + 1) (by exact hl) (fun y hy => hx y (List.mem_cons_of_mem _ hy)), read_put, if_neg (hx x List.mem_cons_self)]
theorem layD_at (a : AR) (data : List Int) : ∀ (l : List Int) (b : BS) (i : Nat), b.lim = false → l.Nodup → (∀ x ∈ l, 0 ≤ x) → ∀ j x, l[j]? = some x → (layD a data b i l).1.read (a.frm + x.toNat) = partS (chunk data (i + j)) ((l[j + 1]?).getD 0)
 | [], b, i, _, _, _, j, x, h => by simp at h
 | y :: l, b, i, hl, hn, h0, j, x, h => by
  rw [List.nodup_cons] at hn
  unfold layD
  rw [if_neg (by rw [full_lim hl]; decide)]
  cases j with
  | zero =>
   simp at h
   subst h
   rw [layD_other a data _ l _ _ (by exact hl) (fun z hz => by
    have h1 := h0 z (List.mem_cons_of_mem _ hz)
    have h2 := h0 y List.mem_cons_self
    have h3 : y ≠ z := fun e => hn.1 (e ▸ hz)
    omega), read_put, if_pos rfl, Nat.add_zero]
   congr 1
   cases l <;> rfl
  | succ j =>
   rw [layD_at a data l _ (i + 1) (by exact hl) hn.2 (fun z hz => h0 z (List.mem_cons_of_mem _ hz)) j x (by simpa using h)]
   rw [show i + 1 + j = i + (j + 1) by omega]
   rfl
theorem layB_ok (a : AR) (e : EN) (data : List Int) (hu : u8s data) (b : BS) (h : BOk b) (hl : b.lim = false) (hp : b.pend = []) (hx : ∀ x ∈ e.secs, a.frm + x.toNat < b.n) (hx2 : e.secs.length < 2 ^ 30) (hat : a.frm + e.at_.toNat < b.n) (hok : e.hd.ok) :
  BOk (layB a e data b) ∧ (layB a e data b).n = b.n ∧ ∀ k, (layB a e data b).read k = if k = a.frm + e.at_.toNat then headS e.hd 1 else (layD a data b 0 e.secs).1.read k := by
 obtain ⟨h1, h2, h3⟩ := layD_ok a data hu e.secs b 0 h hl hx (by rw [hp]; simp only [List.length_nil]; omega)
 rw [hp] at h3
 simp only [List.length_nil, Nat.zero_add] at h3
 have k0 := headS_ok hok (f := 0) (by omega)
 have k1 := headS_ok hok (f := 1) (by omega)
 unfold layB
 generalize (layD a data b 0 e.secs).1 = b1 at *
 have h4 := BOk.put h1 (n := a.frm + e.at_.toNat) (by rw [h2]; exact hat) k0.1 k0.2 (by omega)
 have h5 := BOk.sync h4
 have h6 : (BS.sync (b1.put ((a.frm + e.at_.toNat : Nat) : Int) (headS e.hd 0))).n = b.n := by rw [sync_n h4, put_n]; exact h2
 have h7 := BOk.put h5 (n := a.frm + e.at_.toNat) (by rw [h6]; exact hat) k1.1 k1.2 (by show 0 + 1 < _; decide)
 refine ⟨BOk.sync h7, by rw [sync_n h7, put_n]; exact h6, fun k => ?_⟩
 rw [read_sync h7, read_put]
 by_cases hk : k = a.frm + e.at_.toNat
 · rw [if_pos hk, if_pos hk]
 · rw [if_neg hk, if_neg hk, read_sync h4, read_put, if_neg hk]
theorem partS_eq {d : List Int} (hd : d.length ≤ 510) (next : Int) : partS d next = d ++ zeros (510 - d.length) ++ le 2 next := by
 unfold partS
 rw [List.take_of_length_le hd]
 have h1 : over (zeros 512) 0 d = d ++ zeros (512 - d.length) := by
  unfold over
  rw [List.take_zero, List.nil_append, Nat.zero_add]
  congr 1
  unfold zeros
  rw [List.drop_replicate]
 rw [h1]
 unfold over
 rw [le_len, List.drop_eq_nil_of_le (by rw [List.length_append, zeros_len]; omega), List.append_nil]
 congr 1
 rw [List.take_append, List.take_of_length_le hd]
 congr 1
 unfold zeros
 rw [List.take_replicate]
 congr 1
 omega
theorem partS_next {d : List Int} (hd : d.length ≤ 510) {next : Int} (hn : 0 ≤ next ∧ next < 65536) : unle ((partS d next).drop 510) = next := by
 rw [partS_eq hd, List.drop_left' (by rw [List.length_append, zeros_len]; omega)]
 show unle [next / 256 ^ 0 % 256, next / 256 ^ 1 % 256] = next
 simp only [unle]
 omega
theorem partS_take {d : List Int} (hd : d.length ≤ 510) (next : Int) : (partS d next).take d.length = d := by
  rw [partS_eq hd, List.append_assoc, List.take_left' rfl]
theorem partS_rest {d : List Int} (hd : d.length ≤ 510) (next : Int) : (((partS d next).drop d.length).take (510 - d.length)).any (· != 0) = false := by
 rw [partS_eq hd, List.append_assoc, List.drop_left' rfl, List.take_left' (by rw [zeros_len])]
 rw [List.any_eq_false]
 intro x hx
 rw [List.eq_of_mem_replicate hx]
 decide
structure GoodE (b : BS) (a : AR) (e : EN) (D : List Int) : Prop where
 first : e.hd.first = e.secs.headD 0
 size : e.hd.size = (D.length : Int)
 sum : e.hd.sum = sumS D
 len : e.secs.length = many D.length
 u8 : u8s D
 rd : ∀ j x, e.secs[j]? = some x → sect b a x = partS (chunk D j) ((e.secs[j + 1]?).getD 0)
 hdr : b.read (a.frm + e.at_.toNat) = headS e.hd 1
theorem folF_good (b : BS) (a : AR) (S D : List Int) (hn : S.Nodup) (hb : ∀ x ∈ S, inA a x = true ∧ x < 65536) (hl : S.length = many D.length) (hr : ∀ j x, S[j]? = some x → sect b a x = partS (chunk D j) ((S[j + 1]?).getD 0)) :
  ∀ (l : List Int) (j f : Nat), S.drop j = l → j ≤ S.length → l.length < f → folF b a (D.length : Int) f (l.headD 0) (S.take j) (D.take (510 * j)) = some (S, D, 0) := by
 intro l
 induction l with
 | nil =>
  intro j f h1 h2 h3
  obtain ⟨f, rfl⟩ : ∃ g, f = g + 1 := ⟨f - 1, by simp at h3; omega⟩
  have h4 : S.length ≤ j := by
   have := congrArg List.length h1
   rw [List.length_drop] at this
   simp at this
   omega
  have h0 : inA a 0 = false := by
   unfold inA
   simp
  unfold folF
  rw [if_neg (by rw [List.headD_nil, h0]; decide), List.take_of_length_le h4, List.take_of_length_le (by unfold many at hl; omega)]
  rfl
 | cons x l ih =>
  intro j f h1 h2 h3
  obtain ⟨f, rfl⟩ : ∃ g, f = g + 1 := ⟨f - 1, by simp at h3; omega⟩
  have hjl : j < S.length := by
   have := congrArg List.length h1
   rw [List.length_drop] at this
   simp at this
   omega
  have hx : S[j]? = some x := by
   have := congrArg (fun q => q[0]?) h1
   simp only [List.getElem?_drop, Nat.add_zero, List.getElem?_cons_zero] at this
   exact this
  have hl2 : S.drop (j + 1) = l := by
   have := congrArg List.tail h1
   rw [List.tail_drop] at this
   exact this
  have hxm := hb x (List.mem_of_getElem? hx)
  have hsec := hr j x hx
  have hnx : (S[j + 1]?).getD 0 = l.headD 0 := by
   rw [← hl2]
   cases hd : S.drop (j + 1) with
   | nil => rw [List.getElem?_eq_none (by have := congrArg List.length hd; simp at this; omega)]; rfl
   | cons y r =>
    have := congrArg (fun q => q[0]?) hd
    simp only [List.getElem?_drop, Nat.add_zero, List.getElem?_cons_zero] at this
    rw [this]
    rfl
  rw [hnx] at hsec
  have hcl : (chunk D j).length = min 510 (D.length - j * 510) := by unfold chunk; rw [List.length_take, List.length_drop]
  have hlen : j * 510 < D.length := by unfold many at hl; omega
  have hdl : (D.take (510 * j)).length = 510 * j := by rw [List.length_take]; omega
  have hpn : partN (D.length : Int) (D.take (510 * j)) = ((chunk D j).length : Int) := by
   unfold partN
   rw [hdl, hcl]
   omega
  have hc510 := chunk_len D j
  have hbad : folBad b a (D.length : Int) (S.take j) (D.take (510 * j)) x = false := by
   unfold folBad
   rw [hpn, hsec, Int.toNat_natCast, partS_rest hc510]
   have e1 : (S.take j).contains x = false := by
    rw [Bool.eq_false_iff]
    intro hc
    have hm := List.contains_iff_mem.1 hc
    obtain ⟨q, hq1, hq2⟩ := List.getElem_of_mem hm
    rw [List.getElem_take] at hq2
    rw [List.length_take] at hq1
    have hx2 := (List.getElem?_eq_some_iff.1 hx).2
    exact List.pairwise_iff_getElem.1 hn q j (by omega) hjl (by omega) (by rw [hq2, hx2])
   rw [e1, Bool.or_false, Bool.or_false]
   exact decide_eq_false (by omega)
  have hnext : folNext b a (D.length : Int) (D.take (510 * j)) x = D.take (510 * (j + 1)) := by
   unfold folNext
   rw [hpn, hsec, Int.toNat_natCast, partS_take hc510]
   unfold chunk
   rw [show 510 * (j + 1) = 510 * j + 510 by omega, List.take_add, Nat.mul_comm j 510]
  have hnxt : nxt b a x = l.headD 0 := by
   unfold nxt
   rw [hsec]
   refine partS_next hc510 ?_
   cases l with
   | nil => exact ⟨by decide, by decide⟩
   | cons y r =>
    have hy : y ∈ S := by
     have : y ∈ S.drop (j + 1) := by rw [hl2]; exact List.mem_cons_self
     exact List.mem_of_mem_drop this
    have := hb y hy
    have h5 := (inA_iff a y).1 this.1
    exact ⟨by show 0 ≤ y; omega, this.2⟩
  have htk : S.take j ++ [x] = S.take (j + 1) := by
   rw [List.take_succ_eq_append_getElem hjl, (List.getElem?_eq_some_iff.1 hx).2]
  unfold folF
  rw [List.headD_cons, if_pos hxm.1, if_neg (by rw [hbad]; decide), hnxt, hnext, htk]
  exact ih (j + 1) f hl2 (by omega) (by simp only [List.length_cons] at h3; omega)
theorem follow_good {b : BS} {a : AR} {e : EN} {D : List Int} (h : GoodE b a e D) (hn : e.secs.Nodup) (hb : ∀ x ∈ e.secs, (a.heads : Int) ≤ x ∧ x < (a.sec : Int)) (hh : 0 < a.heads) (hs : a.sec < 65536) : followS b a e.hd = (e.secs, D, true) := by
 have hlen : e.secs.length ≤ a.sec := by
  have := nodup_le hn (lo := 0) (hi := a.sec) (fun x hx => by have := hb x hx; omega)
  omega
 have h1 := folF_good b a e.secs D hn (fun x hx => by have := hb x hx; exact ⟨(inA_iff a x).2 ⟨this.1, this.2, by omega⟩, by omega⟩) h.len h.rd e.secs 0 (a.sec + 2) rfl (Nat.zero_le _) (by omega)
 unfold followS
 rw [h.size, h.first]
 rw [List.take_zero] at h1
 simp only [Nat.mul_zero, List.take_zero] at h1
 rw [h1]
 simp [h.sum]
end Go.Proofs.YtmofiicjaldmiaaGreatDoor.SwN
end
section
namespace Go.Proofs.YtmofiicjaldmiaaGreatDoor.SwO
open Go.RowKit Go.Shelf YtmofiicjaldmiaaGreatDoorW.PrintWords YtmofiicjaldmiaaGreatDoorW.PrintLast SvA SvB SvC SvD SvE SvF SvG SvH SvI SvJ SvK SvL SvM SvN SvO SvP SvQ SvR SvS SvT SvU SvV SvW SvX SvY SvZ SwA SwB SwC SwD SwE SwF SwG SwI SwJ SwK SwH SwL SwM SwN
set_option linter.unusedVariables false
set_option linter.unusedSimpArgs false
theorem over_0 {xs d : List Int} {o : Nat} (h : 0 < o) (h2 : 0 < xs.length) : (over xs o d)[0]? = xs[0]? := by
 unfold over
 rw [List.append_assoc, List.getElem?_append_left (by rw [List.length_take]; omega), List.getElem?_take_of_lt h]
theorem over_pos {xs d : List Int} {o : Nat} (h : 0 < o) (h2 : 0 < xs.length) : 0 < (over xs o d).length := by
 unfold over
 rw [List.length_append, List.length_append, List.length_take]
 omega
theorem headS_0 (h : HD) (f : Int) : (headS h f)[0]? = some f := by
 unfold headS
 have l0 : 0 < (((((zeros 512).set 0 f).set 1 83).set 2 h.ten).set 3 h.name.size).length := by simp only [List.length_set, zeros_len]; omega
 have l1 := over_pos (d := nbytes h.name) (o := 4) (by omega) l0
 have l2 := over_pos (d := le 4 h.ver) (o := 20) (by omega) l1
 have l3 := over_pos (d := le 4 h.size) (o := 24) (by omega) l2
 have l4 := over_pos (d := le 4 h.sum) (o := 28) (by omega) l3
 rw [over_0 (by omega) l4, over_0 (by omega) l3, over_0 (by omega) l2, over_0 (by omega) l1, over_0 (by omega) l0, List.getElem?_set_ne (by omega), List.getElem?_set_ne (by omega), List.getElem?_set_ne (by omega), List.getElem?_set_self (by rw [zeros_len]; omega)]
structure GC (b : BS) (a : AR) (D : ByteArray → List Int) : Prop where
 ge : ∀ e ∈ a.ents, GoodE b a e (D e.hd.name)
 fr : ∀ k : Nat, k < a.heads → (∀ e ∈ a.ents, e.at_ ≠ (k : Int)) → (b.read (a.frm + k))[0]? = some 0
theorem GoodE.reads {b b' : BS} {a a' : AR} {e : EN} {D : List Int} (h : GoodE b a e D) (hf : a'.frm = a.frm) (h1 : b'.read (a.frm + e.at_.toNat) = b.read (a.frm + e.at_.toNat)) (h2 : ∀ x ∈ e.secs, b'.read (a.frm + x.toNat) = b.read (a.frm + x.toNat)) : GoodE b' a' e D :=
 ⟨h.first, h.size, h.sum, h.len, h.u8, fun j x hx => by
  have := h.rd j x hx
  unfold sect at this ⊢
  rw [hf, h2 x (List.mem_of_getElem? hx)]
  exact this, by rw [hf, h1]; exact h.hdr⟩
theorem GC.reads {b b' : BS} {a : AR} {D : ByteArray → List Int} {n i m : Nat} (h : GC b a D) (hg : GA n i m a) (hr : ∀ k, a.frm ≤ k → k < a.frm + a.sec → b'.read k = b.read k) : GC b' a D := by
 have hh : a.heads ≤ a.sec := by rw [hg.hds, hg.sec]; omega
 refine ⟨fun e he => GoodE.reads (h.ge e he) rfl ?_ (fun x hx => ?_), fun k hk hf => ?_⟩
 ·
  have := hg.ar e he
  exact hr _ (by omega) (by omega)
 ·
  have := hg.sr e he x hx
  exact hr _ (by omega) (by omega)
 ·
  rw [hr _ (by omega) (by omega)]
  exact h.fr k hk hf
theorem GC.del {b : BS} {a : AR} {D : ByteArray → List Int} {n i m : Nat} (h : GC b a D) (hg : GA n i m a) {b' : BS} {k : Nat} {e : EN} (he : a.ents[k]? = some e) (hr : ∀ q, b'.read q = if q = a.frm + e.at_.toNat then headS e.hd 0 else b.read q) : GC b' { a with ents := a.ents.eraseIdx k } D := by
 have hat := hg.ar e (List.mem_of_getElem? he)
 have hne := erase_name (f := fun e : EN => e.at_) hg.ad he
 refine ⟨fun x hx => GoodE.reads (h.ge x (List.mem_of_mem_eraseIdx hx)) rfl ?_ (fun y hy => ?_), fun q hq hf => ?_⟩
 ·
  have h1 := hg.ar x (List.mem_of_mem_eraseIdx hx)
  have h2 := hne x hx
  rw [hr, if_neg (by omega)]
 ·
  have h1 := hg.sr x (List.mem_of_mem_eraseIdx hx) y hy
  rw [hr, if_neg (by omega)]
 ·
  show (b'.read (a.frm + q))[0]? = some 0
  rw [hr]
  by_cases hq2 : (q : Int) = e.at_
  ·
   rw [if_pos (by omega)]
   exact headS_0 _ _
  ·
   rw [if_neg (by omega)]
   refine h.fr q hq (fun x hx => ?_)
   by_cases hxe : x ∈ a.ents.eraseIdx k
   · exact hf x hxe
   ·
    have : x = e := by
     obtain ⟨j, hj⟩ := List.getElem?_of_mem hx
     by_cases hjk : j = k
     ·
      subst hjk
      rw [he] at hj
      injection hj with hj
      exact hj.symm
     · exact absurd (List.mem_eraseIdx_iff_getElem?.2 ⟨j, hjk, hj⟩) hxe
    rw [this]
    omega
def updD (D : ByteArray → List Int) (name : ByteArray) (data : List Int) : ByteArray → List Int := fun x => if x == name then data else D x
theorem updD_self (D : ByteArray → List Int) (name : ByteArray) (data : List Int) : updD D name data name = data := if_pos ((ba_beq _ _).2 rfl)
theorem updD_ne (D : ByteArray → List Int) {name x : ByteArray} (data : List Int) (h : x ≠ name) : updD D name data x = D x := if_neg (fun e => h ((ba_beq _ _).1 e))
theorem GC.lay {b : BS} {a : AR} {D : ByteArray → List Int} {n i m : Nat} (h : GC b a D) (hg : GA n i m a) (hl : b.lim = false) {b' : BS} (e : EN) (data : List Int) (hu : u8s data) (h2 : ∀ x ∈ a.ents, x.at_ ≠ e.at_) (h3 : 0 ≤ e.at_ ∧ e.at_ < (a.heads : Int)) (h4 : e.secs.Nodup) (h5 : ∀ x ∈ e.secs, ∀ y ∈ a.ents, x ∉ y.secs) (h6 : ∀ x ∈ e.secs, (a.heads : Int) ≤ x ∧ x < (a.sec : Int))
  (h7 : e.hd.first = e.secs.headD 0) (h8 : e.hd.size = (data.length : Int)) (h9 : e.hd.sum = sumS data) (h10 : e.secs.length = many data.length)
  (hr : ∀ q, b'.read q = if q = a.frm + e.at_.toNat then headS e.hd 1 else (layD a data b 0 e.secs).1.read q) :
  GoodE b' a e data ∧ (∀ x ∈ a.ents, GoodE b' a x (D x.hd.name)) ∧ (∀ k : Nat, k < a.heads → (∀ x ∈ a.ents, x.at_ ≠ (k : Int)) → e.at_ ≠ (k : Int) → (b'.read (a.frm + k))[0]? = some 0) := by
 refine ⟨⟨h7, h8, h9, h10, hu, fun j x hx => ?_, by rw [hr, if_pos rfl]⟩, fun x hx => GoodE.reads (h.ge x hx) rfl ?_ (fun y hy => ?_), fun k hk hf hke => ?_⟩
 ·
  have h11 := h6 x (List.mem_of_getElem? hx)
  unfold sect
  rw [hr, if_neg (by omega), layD_at a data e.secs b 0 hl h4 (fun z hz => by have := h6 z hz; omega) j x hx, Nat.zero_add]
 ·
  have h11 := hg.ar x hx
  have h12 := h2 x hx
  rw [hr, if_neg (by omega), layD_other a data _ e.secs b 0 hl (fun z hz => by have := h6 z hz; omega)]
 ·
  have h11 := hg.sr x hx y hy
  rw [hr, if_neg (by omega), layD_other a data _ e.secs b 0 hl (fun z hz => by
   have h12 := h6 z hz
   have h13 : z ≠ y := fun e => h5 z hz x hx (e ▸ hy)
   omega)]
 ·
  rw [hr, if_neg (by omega), layD_other a data _ e.secs b 0 hl (fun z hz => by have := h6 z hz; omega)]
  exact h.fr k hk hf
def CS (S : SV) (D : Nat → ByteArray → List Int) : Prop := ∀ i, i < 8 → GC S.b (S.ar i) (D i)
def putD (D : Nat → ByteArray → List Int) (i : Nat) (name : ByteArray) (data : List Int) : Nat → ByteArray → List Int := fun j => if j = i then updD (D i) name data else D j
theorem mem_erase {es : List EN} {k : Nat} {e x : EN} (he : es[k]? = some e) (hx : x ∈ es) : x ∈ es.eraseIdx k ∨ x = e := by
 by_cases hxe : x ∈ es.eraseIdx k
 · exact .inl hxe
 ·
  refine .inr ?_
  obtain ⟨j, hj⟩ := List.getElem?_of_mem hx
  by_cases hjk : j = k
  ·
   subst hjk
   rw [he] at hj
   injection hj with hj
   exact hj.symm
  · exact absurd (List.mem_eraseIdx_iff_getElem?.2 ⟨j, hjk, hj⟩) hxe
theorem GA.apart {n i j m m' : Nat} {a a' : AR} (h : GA n i m a) (h' : GA n j m' a') (hij : i ≠ j) {k : Nat} (h1 : a.frm ≤ k) (h2 : k < a.frm + a.sec) (h3 : a'.frm ≤ k) (h4 : k < a'.frm + a'.sec) : False := by
 rw [h.frm] at h1 h2
 rw [h.sec] at h2
 rw [h'.frm] at h3 h4
 rw [h'.sec] at h4
 rcases Nat.lt_or_gt_of_ne hij with h5 | h5
 ·
  have : (i + 1) * (n / 8) ≤ j * (n / 8) := Nat.mul_le_mul h5 (Nat.le_refl _)
  rw [Nat.add_mul, Nat.one_mul] at this
  omega
 ·
  have : (j + 1) * (n / 8) ≤ i * (n / 8) := Nat.mul_le_mul h5 (Nat.le_refl _)
  rw [Nat.add_mul, Nat.one_mul] at this
  omega
theorem GS.in_n {S : SV} {n m : Nat} (h : GS S n m) (i : Nat) (hi : i < 8) : (S.ar i).frm + (S.ar i).sec ≤ S.b.n := (h.aok i hi).fs
def afterB (f : Nat) (old : Option (Nat × EN)) (b : BS) : BS := match old with | none => b | some (_, x) => BS.sync (b.put ((f + x.at_.toNat : Nat) : Int) (headS x.hd 0))
theorem putB_after (S : SV) (i : Nat) (old : Option (Nat × EN)) (name : ByteArray) (data : List Int) : putB S i old name data = afterB (S.ar i).frm old (layB (S.ar i) (newE (S.ar i) ((i : Int) + 1) name (verN old) data) data S.b) := by
  rcases old with _ | ⟨k, x⟩ <;> rfl
theorem put_all {S : SV} {n m : Nat} {D : Nat → ByteArray → List Int} (h : GS S n m) (hc : CS S D) (i : Nat) (hi : i < 8) (name : ByteArray) (hok : nameOk name = true) (data : List Int) (hu : u8s data) (hl : data.length ≤ 131072) (hr : roomS (S.ar i) data.length = true) (hm : m + 1 < 4294967296) :
  GS (putS S i (oldS (S.ar i) name) name data) n (m + 1) ∧ CS (putS S i (oldS (S.ar i) name) name data) (putD D i name data) := by
 have H := h.ar i hi
 have HC := hc i hi
 have hr' := (H.room _).1 hr
 have hH : freeH (S.ar i) ≠ [] := fun e => by have := H.freeH_len; rw [if_pos hr'.1, e] at this; cases this
 have hD : (freeD (S.ar i) (many data.length)).length = many data.length := by rw [H.freeD_len]; omega
 have hHm := freeH_mem (headD_mem hH)
 have hhs : (S.ar i).heads ≤ (S.ar i).sec := by rw [H.hds, H.sec]; omega
 have hs16 : (S.ar i).sec < 65536 := by have := h.hn; rw [H.sec]; omega
 have hin := GS.in_n h i hi
 generalize hold : oldS (S.ar i) name = old at *
 generalize hE : newE (S.ar i) ((i : Int) + 1) name (verN old) data = E
 have E1 : E.hd.name = name := by rw [← hE]; rfl
 have E2 : E.at_ = (freeH (S.ar i)).headD 0 := by rw [← hE]; rfl
 have E3 : E.secs = freeD (S.ar i) (many data.length) := by rw [← hE]; rfl
 have E4 : E.hd.first = E.secs.headD 0 := by rw [← hE]; rfl
 have E5 : E.hd.size = (data.length : Int) := by rw [← hE]; rfl
 have E6 : E.hd.sum = sumS data := by rw [← hE]; rfl
 have E7 : E.secs.length = many data.length := by rw [E3]; exact hD
 have E8 : ∀ x ∈ E.secs, ((S.ar i).heads : Int) ≤ x ∧ x < ((S.ar i).sec : Int) := fun x hx => by rw [E3] at hx; exact ⟨(freeD_mem hx).1, (freeD_mem hx).2.1⟩
 have E9 : ∀ x ∈ E.secs, ∀ y ∈ (S.ar i).ents, x ∉ y.secs := fun x hx => by rw [E3] at hx; exact (freeD_mem hx).2.2
 have E10 : 0 ≤ E.at_ ∧ E.at_ < ((S.ar i).heads : Int) := by rw [E2]; exact ⟨hHm.1, hHm.2.1⟩
 have E11 : ∀ x ∈ (S.ar i).ents, x.at_ ≠ E.at_ := by rw [E2]; exact hHm.2.2
 have hv : 1 ≤ verN old ∧ verN old ≤ ((m + 1 : Nat) : Int) := by
  rcases old with _ | ⟨k, x⟩
  · exact ⟨by decide, by show (1 : Int) ≤ _; omega⟩
  ·
   have := H.ok x (List.mem_of_getElem? (oldS_name hold).2)
   exact ⟨by show 1 ≤ x.hd.ver + 1; omega, by show x.hd.ver + 1 ≤ _; omega⟩
 have E12 : E.hd.ok := by
  rw [← hE]
  refine ⟨?_, nameOk_size hok, ?_, ?_, xor_u32_bd _ _, ?_⟩
  ·
   show (0 : Int) ≤ (i : Int) + 1 ∧ (i : Int) + 1 < 256
   omega
  ·
   show (0 : Int) ≤ verN _ ∧ verN _ < (4294967296 : Int)
   omega
  ·
   show (0 : Int) ≤ (data.length : Int) ∧ (data.length : Int) < 4294967296
   omega
  ·
   show 0 ≤ (freeD (S.ar i) (many data.length)).headD 0 ∧ (freeD (S.ar i) (many data.length)).headD 0 < 65536
   by_cases he : freeD (S.ar i) (many data.length) = []
   · rw [he]; exact ⟨by decide, by decide⟩
   ·
    have := freeD_mem (headD_mem he)
    omega
 obtain ⟨b1, b2, b3⟩ := layB_ok (S.ar i) E data hu S.b h.bok h.lim h.pend (fun x hx => by have := E8 x hx; omega) (by rw [E7]; unfold many; omega) (by omega) E12
 have hnE : E.secs.Nodup := by rw [E3]; exact freeD_nodup _ _
 obtain ⟨g1, g2, g3⟩ := GC.lay HC H h.lim E data hu E11 E10 hnE E9 E8 E4 E5 E6 E7 b3
 have hpb := putB_after S i old name data
 rw [hE] at hpb
 have hlim := (putB_lim S i old name data h.lim)
 have hput := putS_eq S i old name data
 rw [hE] at hput
 have key : BOk (putB S i old name data) ∧ (putB S i old name data).n = S.b.n ∧ (∀ k, (k < (S.ar i).frm ∨ (S.ar i).frm + (S.ar i).sec ≤ k) → (putB S i old name data).read k = S.b.read k) ∧ GC (putB S i old name data) { S.ar i with ents := oldE old (S.ar i).ents ++ [E] } (updD (D i) name data) := by
  have hout : ∀ k, (k < (S.ar i).frm ∨ (S.ar i).frm + (S.ar i).sec ≤ k) → (layB (S.ar i) E data S.b).read k = S.b.read k := fun k hk => by
   rw [b3, if_neg (by omega), layD_other (S.ar i) data k E.secs S.b 0 h.lim (fun z hz => by have := E8 z hz; omega)]
  have hLP : (layB (S.ar i) E data S.b).pend = [] := layB_pend _ _ _ _
  rw [hpb]
  generalize layB (S.ar i) E data S.b = lb at *
  rcases old with _ | ⟨k, x0⟩
  ·
   refine ⟨b1, b2, hout, fun x hx => ?_, fun k hk hf => ?_⟩
   ·
    rcases List.mem_append.1 hx with hx | hx
    ·
     rw [updD_ne _ _ (oldS_no hold x hx)]
     exact GoodE.reads (g2 x hx) rfl rfl (fun _ _ => rfl)
    ·
     simp at hx
     subst hx
     rw [E1, updD_self]
     exact GoodE.reads g1 rfl rfl (fun _ _ => rfl)
   · exact g3 k hk (fun x hx => hf x (List.mem_append_left _ hx)) (hf E (List.mem_append_right _ List.mem_cons_self))
  ·
   obtain ⟨o1, o2⟩ := oldS_name hold
   have o3 := List.mem_of_getElem? o2
   have o4 := H.ar x0 o3
   have o5 := (H.ok x0 o3).1
   have k0 := headS_ok o5 (f := 0) (by omega)
   have c1 := BOk.put b1 (n := (S.ar i).frm + x0.at_.toNat) (by rw [b2]; omega) k0.1 k0.2 (by rw [hLP]; decide)
   have c2 : ∀ q, (BS.sync (lb.put (((S.ar i).frm + x0.at_.toNat : Nat) : Int) (headS x0.hd 0))).read q = if q = (S.ar i).frm + x0.at_.toNat then headS x0.hd 0 else lb.read q := fun q => by rw [read_sync c1, read_put]
   have hneE := erase_name (f := fun e : EN => e.at_) H.ad o2
   have hneN := erase_name (f := fun e : EN => e.hd.name) H.nd o2
   refine ⟨BOk.sync c1, by show (BS.sync _).n = _; rw [sync_n c1, put_n]; exact b2, fun k hk => by show (BS.sync _).read k = _; rw [c2, if_neg (by omega)]; exact hout k hk, fun x hx => ?_, fun k hk hf => ?_⟩
   ·
    rcases List.mem_append.1 hx with hx | hx
    ·
     have hxm := List.mem_of_mem_eraseIdx hx
     have n1 : x.hd.name ≠ name := by rw [← o1]; exact hneN x hx
     rw [updD_ne _ _ n1]
     refine GoodE.reads (g2 x hxm) rfl ?_ (fun y hy => ?_)
     ·
      have h1 := H.ar x hxm
      have h2 := hneE x hx
      show (BS.sync _).read _ = _
      rw [c2, if_neg (by omega)]
     ·
      have h1 := H.sr x hxm y hy
      show (BS.sync _).read _ = _
      rw [c2, if_neg (by omega)]
    ·
     simp at hx
     subst hx
     rw [E1, updD_self]
     refine GoodE.reads g1 rfl ?_ (fun y hy => ?_)
     ·
      have h2 := E11 x0 o3
      show (BS.sync _).read _ = _
      rw [c2, if_neg (by omega)]
     ·
      have h1 := E8 y hy
      show (BS.sync _).read _ = _
      rw [c2, if_neg (by omega)]
   ·
    show ((BS.sync (lb.put (((S.ar i).frm + x0.at_.toNat : Nat) : Int) (headS x0.hd 0))).read ((S.ar i).frm + k))[0]? = some 0
    rw [c2]
    by_cases hk2 : (k : Int) = x0.at_
    ·
     rw [if_pos (by omega)]
     exact headS_0 _ _
    ·
     rw [if_neg (by omega)]
     refine g3 k hk (fun x hx => ?_) (hf E (List.mem_append_right _ List.mem_cons_self))
     rcases mem_erase o2 hx with hx | hx
     · exact hf x (List.mem_append_left _ hx)
     · rw [hx]; omega
 obtain ⟨p1, p2, p3, p4⟩ := key
 constructor
 ·
  have := h.put i hi name hok data hl hr hm (by rw [hold, hput]; exact p1) (by rw [hold, hput]; show (putB S i old name data).n = n; rw [p2, h.bn])
  rw [hold] at this
  exact this
 ·
  intro j hj
  rw [hput, setE_ar]
  unfold putD
  by_cases e : j = i
  ·
   rw [if_pos e, if_pos e]
   exact p4
  ·
   rw [if_neg e, if_neg e]
   refine GC.reads (hc j hj) (h.ar j hj) (fun k hk1 hk2 => p3 k ?_)
   rcases Nat.lt_or_ge k (S.ar i).frm with h1 | h1
   · exact .inl h1
   ·
    rcases Nat.lt_or_ge k ((S.ar i).frm + (S.ar i).sec) with h2 | h2
    · exact (GA.apart (h.ar i hi) (h.ar j hj) (fun q => e q.symm) h1 h2 hk1 hk2).elim
    · exact .inr h2
end Go.Proofs.YtmofiicjaldmiaaGreatDoor.SwO
end
section
namespace Go.Proofs.YtmofiicjaldmiaaGreatDoor.SwP
open Go.RowKit Go.Shelf YtmofiicjaldmiaaGreatDoorW.PrintWords YtmofiicjaldmiaaGreatDoorW.PrintLast SvA SvB SvC SvD SvE SvF SvG SvH SvI SvJ SvK SvL SvM SvN SvO SvP SvQ SvR SvS SvT SvU SvV SvW SvX SvY SvZ SwA SwB SwC SwD SwE SwF SwG SwI SwJ SwK SwH SwL SwM SwN SwO
set_option linter.unusedVariables false
set_option linter.unusedSimpArgs false
theorem del_all {S : SV} {n m : Nat} {D : Nat → ByteArray → List Int} (h : GS S n m) (hc : CS S D) (i : Nat) (hi : i < 8) (k : Nat) (e : EN) (he : (S.ar i).ents[k]? = some e) : GS (delS S i k e) n m ∧ CS (delS S i k e) D := by
 have H := h.ar i hi
 have hin := GS.in_n h i hi
 have hm := List.mem_of_getElem? he
 have hat := H.ar e hm
 have hhs : (S.ar i).heads ≤ (S.ar i).sec := by rw [H.hds, H.sec]; omega
 have k0 := headS_ok (H.ok e hm).1 (f := 0) (by omega)
 have c1 := BOk.put h.bok (n := (S.ar i).frm + e.at_.toNat) (by omega) k0.1 k0.2 (by rw [h.pend]; decide)
 have c2 : ∀ q, (delS S i k e).b.read q = if q = (S.ar i).frm + e.at_.toNat then headS e.hd 0 else S.b.read q := fun q => by
  show (BS.sync _).read q = _
  rw [read_sync c1, read_put]
 refine ⟨h.del i hi k e (BOk.sync c1) (by show (BS.sync _).n = n; rw [sync_n c1, put_n]; exact h.bn), fun j hj => ?_⟩
 rw [delS_eq, setE_ar]
 by_cases ej : j = i
 ·
  rw [if_pos ej, ej]
  exact GC.del (hc i hi) H he c2
 ·
  rw [if_neg ej]
  refine GC.reads (hc j hj) (h.ar j hj) (fun q h1 h2 => ?_)
  have := c2 q
  rw [delS_eq] at this
  rw [this, if_neg]
  intro hq
  exact GA.apart (h.ar i hi) (h.ar j hj) (fun q => ej q.symm) (k := q) (by omega) (by omega) h1 h2
def ActR (w : World) (own : Nat → Nat) (t g gs : Nat) (ga : Nat → Nat) (r : SV × Int) (e : Ending) (w' : World) : Prop := e = .returned (.int .i64 r.2) ∧ ∃ own', SvMem w' own' t g gs ga r.1 ∧ Kp (k20 t) w own w' own'
def putR (S : SV) (i : Nat) (name : ByteArray) (data : List Int) : SV × Int := if roomS (S.ar i) data.length then (putS S i (oldS (S.ar i) name) name data, 0) else (S, 112)
def delR (S : SV) (i : Nat) (name : ByteArray) : SV × Int := match oldS (S.ar i) name with | none => (S, 111) | some (k, e) => (delS S i k e, 0)
theorem put_act (w : World) (own : Nat → Nat) (t g gs : Nat) (ga : Nat → Nat) (S : SV) (H : SvMem w own t g gs ga S) (ht : t ≠ 0) {n m : Nat} (hg : GS S n m) (hm : m + 1 < 4294967296) (i : Nat) (hi : i < 8) (name : ByteArray) (hok : nameOk name = true) (A : Option Addr) (c td : Nat) (data : List Int) (hda : Rd u8K w own td ⟨A, data.length, c⟩ data) (htd : ¬ k3 t td) (hu : u8s data) (hn : data.length ≤ 131072) :
  Calls Tryz.prog 23 #[pt g, .int .i64 ((i : Int) + 1), .string name, .slice A data.length c] w (ActR w own t g gs ga (putR S i name data)) := by
 unfold putR
 have hv : ∀ e ∈ (S.ar i).ents, e.hd.ver < 4294967295 := fun e he => by have := ((hg.ar i hi).ok e he).2.2.1; omega
 cases hr : roomS (S.ar i) data.length
 ·
  refine (put_none w own t g gs ga S H ht i hi hg.bok (hg.aok i hi) name hok hg.dead A data.length c td data hda htd hu hn hr hv).mono ?_
  rintro e w' ⟨rfl, hb⟩
  exact ⟨rfl, _, H.below hb, Kp.below hb 0⟩
 ·
  refine (put_room w own t g gs ga S H ht i hi hg.bok (hg.aok i hi) name hok hg.dead A data.length c td data hda htd hu hn hr hv hg.lim hg.pend).mono ?_
  rintro e w' ⟨rfl, _, _, own', h1, h2⟩
  exact ⟨rfl, own', h1, h2⟩
theorem del_act (w : World) (own : Nat → Nat) (t g gs : Nat) (ga : Nat → Nat) (S : SV) (H : SvMem w own t g gs ga S) (ht : t ≠ 0) {n m : Nat} (hg : GS S n m) (i : Nat) (hi : i < 8) (name : ByteArray) (hok : nameOk name = true) :
  Calls Tryz.prog 26 #[pt g, .int .i64 ((i : Int) + 1), .string name] w (ActR w own t g gs ga (delR S i name)) := by
 have hs := nameOk_size hok
 have hA := hg.aok i hi
 unfold delR
 rcases ho : oldS (S.ar i) name with _ | ⟨k, e⟩
 ·
  refine (delete_none w own t g gs ga S H i hi name (by omega) hg.dead hok (by have := hA.el; omega) (oldS_none ho)).mono ?_
  rintro e w' ⟨rfl, hb⟩
  exact ⟨rfl, _, H.below hb, Kp.below hb 0⟩
 ·
  obtain ⟨h1, h2⟩ := oldS_some ho
  have h3 := hA.eo e (List.mem_of_getElem? h2)
  refine (delete_yes w own t g gs ga S H ht i hi hg.bok hA.fs name (by omega) hg.dead hok hA.el k h1 e h2 h3.1 h3.2.1 (by rw [hg.pend]; decide) (full_lim hg.lim)).mono ?_
  rintro e w' ⟨rfl, _, _, own', h1, h2⟩
  exact ⟨rfl, own', h1, h2⟩
theorem nmS_ok (k : Nat) (h : k < 6) : nameOk (nmS k) = true := by
  rcases (show k = 0 ∨ k = 1 ∨ k = 2 ∨ k = 3 ∨ k = 4 ∨ k = 5 by omega) with rfl | rfl | rfl | rfl | rfl | rfl <;> decide
theorem AC.name_ok (a : AC) : nameOk a.name = true := nmS_ok _ a.n0_lt.1
def doS (S : SV) (a : AC) (most : Int) : SV × Int := if a.puts then putR S a.t0 a.name (a.data most) else delR S a.t0 a.name
theorem AC.data_len (a : AC) (most : Int) : (a.data most).length = a.len most := dataS_len _ _
set_option maxRecDepth 100000 in
set_option maxHeartbeats 2000000 in
theorem does_ok (w : World) (own : Nat → Nat) (t g gs : Nat) (ga : Nat → Nat) (S : SV) (H : SvMem w own t g gs ga S) (ht : t ≠ 0) (n m : Nat) (hg : GS S n m) (hm : m + 1 < 4294967296) (a : AC) (ha : a.wf) (most : Int) (h1 : 1 ≤ most) (h2 : most ≤ 100000) :
  Calls Tryz.prog 18 #[a.enc, pt g, .int .i64 most] w (ActR w own t g gs ga (doS S a most)) := by
 have HT := Lib.hid (fun W => tenant_ok a ha W)
 have HN := Lib.hid (fun W => name_ok a ha W)
 have HD := Lib.hid (fun W => data_ok a ha most h1 (by omega) W)
 have HPU := Lib.hid (fun W => puts_ok a W)
 have hnok := AC.name_ok a
 have hti := a.t0_lt.1
 have hdl := AC.data_len a most
 have hlm := (a.len_lt most (by omega)).1
 have hu : u8s (a.data most) := dataS_u8 _ _
 have HA := Lib.hid (fun (W : World) (h : Below w.heap.size w W) (A : Option Addr) (hA : ∀ q, A = some q → w.heap.size ≤ q.block) (hB : BytesAt W A (a.len most) (a.data most)) =>
  put_act W (tagged w own (t + 20)) t g gs ga S (H.keep (Kp.below (ts := fun _ => False) h (t + 20)) (fun q => q) (fun _ _ _ q => q)) ht hg hm a.t0 hti a.name hnok A (a.len most) (t + 20) (a.data most) (by rw [hdl]; exact ⟨hB, Nat.le_refl _, fun q hq _ => tagged_new (hA q hq)⟩) (by unfold k3; omega) hu (by rw [hdl]; omega))
 rw [hdl] at HA
 have HE := Lib.hid (fun (W : World) (h : Below w.heap.size w W) => del_act W (tagged w own 0) t g gs ga S (H.below h) ht hg a.t0 hti a.name hnok)
 have hdo : doS S a most = if a.puts then putR S a.t0 a.name (a.data most) else delR S a.t0 a.name := rfl
 rw [hdo]
 clear hdo
 generalize a.t0 = ti at *
 generalize a.name = nme at *
 generalize a.data most = dt at *
 generalize a.len most = ln at *
 cases hp : a.puts
 ·
  rw [hp] at HPU
  rw [if_neg (by decide)]
  generalize delR S ti nme = RR at *
  clear hp hg ha H HA HD hu hdl
  obtain ⟨k, tn, nn, b⟩ := a
  dsimp only [AC.enc] at *
  go_enter Tryz.func18, Tryz.ntmps18
  go_upto_region 3 with (go_at_call 27; refine (HPU.out _).mono ?_; rintro e w2 ⟨rfl, hb2⟩)
  have hBx := ba (w := w) (.cells #[.int .i64 k, .int .i64 tn, .int .i64 nn, .int .i64 b] 33)
  have hS0 : (fun w' => w'.cell? ⟨w.heap.size, 0, none⟩ = some (.int .i64 k) ∧ w'.cell? ⟨w.heap.size, 1, none⟩ = some (.int .i64 tn) ∧ w'.cell? ⟨w.heap.size, 2, none⟩ = some (.int .i64 nn) ∧ w'.cell? ⟨w.heap.size, 3, none⟩ = some (.int .i64 b)) w2 := ⟨cellOf hb2 (Blk.cell (i := 0) (blkNew rfl) rfl), cellOf hb2 (Blk.cell (i := 1) (blkNew rfl) rfl), cellOf hb2 (Blk.cell (i := 2) (blkNew rfl) rfl), cellOf hb2 (Blk.cell (i := 3) (blkNew rfl) rfl)⟩
  have hb2' : Below w.heap.size w w2 := hBx.trans (hb2.mono hBx.size)
  clear hb2 hBx
  refine start_ (n := 7) (S := fun w' => w'.cell? ⟨w.heap.size, 0, none⟩ = some (.int .i64 k) ∧ w'.cell? ⟨w.heap.size, 1, none⟩ = some (.int .i64 tn) ∧ w'.cell? ⟨w.heap.size, 2, none⟩ = some (.int .i64 nn) ∧ w'.cell? ⟨w.heap.size, 3, none⟩ = some (.int .i64 b)) (ds := [5]) #[false, false, false, false, false, false, false] (by kernel_rfl) rfl rfl hS0 (fun hHeld => ?_)
  refine pu_ (i := 0) (N := some 18) (v := ?_) (a' := ?_) rfl rfl (by kernel_rfl) (fun _ _ _ h => h) (by rfl) ?_ ?_ ?_
  rotate_left
  · (intro w'; go_simp; with_reducible rfl)
  rotate_left
  · (simp only [put_s, List.set, i64_w, i32_w]; rfl)
  refine tk_ (i := 1) (N := some 19) (v := ?_) (a' := ?_) rfl rfl (by kernel_rfl) (fun _ _ _ h => h) (by rfl) ?_ hHeld ?_ ?_
  rotate_left
  ·
   intro w' s0
   obtain ⟨q1, q2, q3, q4⟩ := s0
   go_simp
   with_reducible rfl
  rotate_left
  · (simp only [put_s, List.set, i64_w, i32_w]; rfl)
  refine tk_ (i := 3) (N := some 21) (v := ?_) (a' := ?_) rfl rfl (by kernel_rfl) (fun _ _ _ h => h) (by rfl) ?_ hHeld ?_ ?_
  rotate_left
  ·
   intro w' s0
   obtain ⟨q1, q2, q3, q4⟩ := s0
   go_simp
   with_reducible rfl
  rotate_left
  · (simp only [put_s, List.set, i64_w, i32_w]; rfl)
  refine on_ (i := 2) (N := some 20) rfl rfl (by kernel_rfl) (by decide) (fun K hK => ?_)
  refine goes_ Tryz.func19 (by kernel_rfl) rfl #[.agg #[.int .i64 k, .int .i64 tn, .int .i64 nn, .int .i64 b]] (by first | rfl | (simp [Act.eval]; done)) rfl rfl (by first | rfl | (simp [Act.eval]; done)) ?_
  refine Calls.mono (HT.out _) ?_
  rintro e w3 ⟨rfl, hb3⟩
  refine ⟨_, rfl, ?_⟩
  refine hK.out _ _ ⟨cellOf hb3 hHeld.1, cellOf hb3 hHeld.2.1, cellOf hb3 hHeld.2.2.1, cellOf hb3 hHeld.2.2.2⟩ (fun hHeld => ?_)
  clear hK K
  refine norm_ (a' := ?_) ?_ ?_
  rotate_left
  ·
   show Act.put _ (some 20) _ = _
   simp only [put_s, List.set, i64_w, i32_w]
   rfl
  refine on_ (i := 4) (N := some 22) rfl rfl (by kernel_rfl) (by decide) (fun K hK => ?_)
  refine goes_ Tryz.func29 (by kernel_rfl) rfl #[.agg #[.int .i64 k, .int .i64 tn, .int .i64 nn, .int .i64 b]] (by first | rfl | (simp [Act.eval]; done)) rfl rfl (by first | rfl | (simp [Act.eval]; done)) ?_
  refine Calls.mono (HN.out _) ?_
  rintro e w4 ⟨rfl, hb4⟩
  refine ⟨_, rfl, ?_⟩
  refine hK.out _ _ ⟨cellOf hb4 hHeld.1, cellOf hb4 hHeld.2.1, cellOf hb4 hHeld.2.2.1, cellOf hb4 hHeld.2.2.2⟩ (fun hHeld => ?_)
  clear hK K
  refine norm_ (a' := ?_) ?_ ?_
  rotate_left
  ·
   show Act.put _ (some 22) _ = _
   simp only [put_s, List.set, i64_w, i32_w]
   rfl
  refine la_ (i := 5) (N := some 23) rfl rfl (by kernel_rfl) (by decide) (fun K hK => ?_)
  have hb5 : Below w.heap.size w w4 := (hb2'.drew.trans (hb3.mono hb2'.size)).trans (hb4.mono (Nat.le_trans hb2'.size hb3.size))
  refine goes_ Tryz.func26 (by kernel_rfl) rfl #[pt g, .int .i64 ((ti : Int) + 1), .string nme] (by first | rfl | (simp [Act.eval]; done)) rfl rfl (by first | rfl | (simp [Act.eval]; done)) ?_
  refine Calls.mono (HE.out w4 hb5) ?_
  rintro e w7 ⟨rfl, own', p1, p2⟩
  refine ⟨_, rfl, ?_⟩
  refine hK.out _ _ ?_
  clear hK K
  refine norm_ (a' := ?_) ?_ ?_
  rotate_left
  ·
   show Act.put _ (some 23) _ = _
   simp only [put_s, List.set, i64_w, i32_w]
   rfl
  refine pu_ (i := 6) (N := some 6) (v := ?_) (a' := ?_) rfl rfl (by kernel_rfl) (fun _ _ _ h => h) (by rfl) ?_ ?_ ?_
  rotate_left
  · (intro w'; go_simp; with_reducible rfl)
  rotate_left
  · (simp only [put_s, List.set, i64_w, i32_w]; rfl)
  refine done_ (by kernel_rfl) ?_
  go_wp2_with fail
  go_ret
  exact ⟨rfl, own', p1, (Kp.below hb5 0).trans p2⟩
 ·
  rw [hp] at HPU
  rw [if_pos rfl]
  generalize putR S ti nme dt = RR at *
  clear hp hg ha H HE hu hdl
  obtain ⟨k, tn, nn, b⟩ := a
  dsimp only [AC.enc] at *
  go_enter Tryz.func18, Tryz.ntmps18
  go_upto_region 2 with (go_at_call 27; refine (HPU.out _).mono ?_; rintro e w2 ⟨rfl, hb2⟩)
  have hBx := ba (w := w) (.cells #[.int .i64 k, .int .i64 tn, .int .i64 nn, .int .i64 b] 33)
  have hS0 : (fun w' => w'.cell? ⟨w.heap.size, 0, none⟩ = some (.int .i64 k) ∧ w'.cell? ⟨w.heap.size, 1, none⟩ = some (.int .i64 tn) ∧ w'.cell? ⟨w.heap.size, 2, none⟩ = some (.int .i64 nn) ∧ w'.cell? ⟨w.heap.size, 3, none⟩ = some (.int .i64 b)) w2 := ⟨cellOf hb2 (Blk.cell (i := 0) (blkNew rfl) rfl), cellOf hb2 (Blk.cell (i := 1) (blkNew rfl) rfl), cellOf hb2 (Blk.cell (i := 2) (blkNew rfl) rfl), cellOf hb2 (Blk.cell (i := 3) (blkNew rfl) rfl)⟩
  have hb2' : Below w.heap.size w w2 := hBx.trans (hb2.mono hBx.size)
  clear hb2 hBx
  refine start_ (n := 10) (S := fun w' => w'.cell? ⟨w.heap.size, 0, none⟩ = some (.int .i64 k) ∧ w'.cell? ⟨w.heap.size, 1, none⟩ = some (.int .i64 tn) ∧ w'.cell? ⟨w.heap.size, 2, none⟩ = some (.int .i64 nn) ∧ w'.cell? ⟨w.heap.size, 3, none⟩ = some (.int .i64 b)) (ds := [8]) #[false, false, false, false, false, false, false, false, false, false] (by kernel_rfl) rfl rfl hS0 (fun hHeld => ?_)
  refine pu_ (i := 0) (N := some 9) (v := ?_) (a' := ?_) rfl rfl (by kernel_rfl) (fun _ _ _ h => h) (by rfl) ?_ ?_ ?_
  rotate_left
  · (intro w'; go_simp; with_reducible rfl)
  rotate_left
  · (simp only [put_s, List.set, i64_w, i32_w]; rfl)
  refine tk_ (i := 1) (N := some 10) (v := ?_) (a' := ?_) rfl rfl (by kernel_rfl) (fun _ _ _ h => h) (by rfl) ?_ hHeld ?_ ?_
  rotate_left
  ·
   intro w' s0
   obtain ⟨q1, q2, q3, q4⟩ := s0
   go_simp
   with_reducible rfl
  rotate_left
  · (simp only [put_s, List.set, i64_w, i32_w]; rfl)
  refine tk_ (i := 3) (N := some 12) (v := ?_) (a' := ?_) rfl rfl (by kernel_rfl) (fun _ _ _ h => h) (by rfl) ?_ hHeld ?_ ?_
  rotate_left
  ·
   intro w' s0
   obtain ⟨q1, q2, q3, q4⟩ := s0
   go_simp
   with_reducible rfl
  rotate_left
  · (simp only [put_s, List.set, i64_w, i32_w]; rfl)
  refine tk_ (i := 5) (N := some 14) (v := ?_) (a' := ?_) rfl rfl (by kernel_rfl) (fun _ _ _ h => h) (by rfl) ?_ hHeld ?_ ?_
  rotate_left
  ·
   intro w' s0
   obtain ⟨q1, q2, q3, q4⟩ := s0
   go_simp
   with_reducible rfl
  rotate_left
  · (simp only [put_s, List.set, i64_w, i32_w]; rfl)
  refine pu_ (i := 6) (N := some 15) (v := ?_) (a' := ?_) rfl rfl (by kernel_rfl) (fun _ _ _ h => h) (by rfl) ?_ ?_ ?_
  rotate_left
  · (intro w'; go_simp; with_reducible rfl)
  rotate_left
  · (simp only [put_s, List.set, i64_w, i32_w]; rfl)
  refine on_ (i := 2) (N := some 11) rfl rfl (by kernel_rfl) (by decide) (fun K hK => ?_)
  refine goes_ Tryz.func19 (by kernel_rfl) rfl #[.agg #[.int .i64 k, .int .i64 tn, .int .i64 nn, .int .i64 b]] (by first | rfl | (simp [Act.eval]; done)) rfl rfl (by first | rfl | (simp [Act.eval]; done)) ?_
  refine Calls.mono (HT.out _) ?_
  rintro e w3 ⟨rfl, hb3⟩
  refine ⟨_, rfl, ?_⟩
  refine hK.out _ _ ⟨cellOf hb3 hHeld.1, cellOf hb3 hHeld.2.1, cellOf hb3 hHeld.2.2.1, cellOf hb3 hHeld.2.2.2⟩ (fun hHeld => ?_)
  clear hK K
  refine norm_ (a' := ?_) ?_ ?_
  rotate_left
  ·
   show Act.put _ (some 11) _ = _
   simp only [put_s, List.set, i64_w, i32_w]
   rfl
  refine on_ (i := 4) (N := some 13) rfl rfl (by kernel_rfl) (by decide) (fun K hK => ?_)
  refine goes_ Tryz.func29 (by kernel_rfl) rfl #[.agg #[.int .i64 k, .int .i64 tn, .int .i64 nn, .int .i64 b]] (by first | rfl | (simp [Act.eval]; done)) rfl rfl (by first | rfl | (simp [Act.eval]; done)) ?_
  refine Calls.mono (HN.out _) ?_
  rintro e w4 ⟨rfl, hb4⟩
  refine ⟨_, rfl, ?_⟩
  refine hK.out _ _ ⟨cellOf hb4 hHeld.1, cellOf hb4 hHeld.2.1, cellOf hb4 hHeld.2.2.1, cellOf hb4 hHeld.2.2.2⟩ (fun hHeld => ?_)
  clear hK K
  refine norm_ (a' := ?_) ?_ ?_
  rotate_left
  ·
   show Act.put _ (some 13) _ = _
   simp only [put_s, List.set, i64_w, i32_w]
   rfl
  refine on_ (i := 7) (N := some 16) rfl rfl (by kernel_rfl) (by decide) (fun K hK => ?_)
  refine goes_ Tryz.func24 (by kernel_rfl) rfl #[.agg #[.int .i64 k, .int .i64 tn, .int .i64 nn, .int .i64 b], .int .i64 most] (by first | rfl | (simp [Act.eval]; done)) rfl rfl (by first | rfl | (simp [Act.eval]; done)) ?_
  refine Calls.mono (HD.out _) ?_
  rintro e w5 ⟨A, rfl, f1, f2, hb5⟩
  refine ⟨_, rfl, ?_⟩
  refine hK.out _ _ ⟨cellOf hb5 hHeld.1, cellOf hb5 hHeld.2.1, cellOf hb5 hHeld.2.2.1, cellOf hb5 hHeld.2.2.2⟩ (fun hHeld => ?_)
  clear hK K
  refine norm_ (a' := ?_) ?_ ?_
  rotate_left
  ·
   show Act.put _ (some 16) _ = _
   simp only [put_s, List.set, i64_w, i32_w]
   rfl
  refine la_ (i := 8) (N := some 17) rfl rfl (by kernel_rfl) (by decide) (fun K hK => ?_)
  have hb45 : Below w.heap.size w w4 := (hb2'.drew.trans (hb3.mono hb2'.size)).trans (hb4.mono (Nat.le_trans hb2'.size hb3.size))
  have hb6 : Below w.heap.size w w5 := hb45.trans (hb5.mono hb45.size)
  refine goes_ Tryz.func23 (by kernel_rfl) rfl #[pt g, .int .i64 ((ti : Int) + 1), .string nme, .slice A ln ln] (by first | rfl | (simp [Act.eval]; done)) rfl rfl (by first | rfl | (simp [Act.eval]; done)) ?_
  refine Calls.mono (HA.out w5 hb6 A (fun q hq => Nat.le_trans hb45.size (f2 q hq)) f1) ?_
  rintro e w7 ⟨rfl, own', p1, p2⟩
  refine ⟨_, rfl, ?_⟩
  refine hK.out _ _ ?_
  clear hK K
  refine norm_ (a' := ?_) ?_ ?_
  rotate_left
  ·
   show Act.put _ (some 17) _ = _
   simp only [put_s, List.set, i64_w, i32_w]
   rfl
  refine pu_ (i := 9) (N := some 6) (v := ?_) (a' := ?_) rfl rfl (by kernel_rfl) (fun _ _ _ h => h) (by rfl) ?_ ?_ ?_
  rotate_left
  · (intro w'; go_simp; with_reducible rfl)
  rotate_left
  · (simp only [put_s, List.set, i64_w, i32_w]; rfl)
  refine done_ (by kernel_rfl) ?_
  go_wp2_with fail
  go_ret
  exact ⟨rfl, own', p1, (Kp.below hb6 (t + 20)).trans p2⟩
end Go.Proofs.YtmofiicjaldmiaaGreatDoor.SwP
end
section
namespace Go.Proofs.YtmofiicjaldmiaaGreatDoor.SwQ
open Go.RowKit Go.Shelf YtmofiicjaldmiaaGreatDoorW.PrintWords YtmofiicjaldmiaaGreatDoorW.PrintLast SvA SvB SvC SvD SvE SvF SvG SvH SvI SvJ SvK SvL SvM SvN SvO SvP SvQ SvR SvS SvT SvU SvV SvW SvX SvY SvZ SwA SwB SwC SwD SwE SwF SwG SwI SwJ SwK SwH SwL SwM SwN SwO SwP
set_option linter.unusedVariables false
set_option linter.unusedSimpArgs false
theorem putR_all {S : SV} {n m : Nat} {D : Nat → ByteArray → List Int} (h : GS S n m) (hc : CS S D) (i : Nat) (hi : i < 8) (name : ByteArray) (hok : nameOk name = true) (data : List Int) (hu : u8s data) (hl : data.length ≤ 131072) (hm : m + 1 < 4294967296) :
  GS (putR S i name data).1 n (m + 1) ∧ CS (putR S i name data).1 (if roomS (S.ar i) data.length then putD D i name data else D) := by
 unfold putR
 cases hr : roomS (S.ar i) data.length
 · exact ⟨h.mono (by omega), hc⟩
 · exact put_all h hc i hi name hok data hu hl hr hm
theorem delR_all {S : SV} {n m : Nat} {D : Nat → ByteArray → List Int} (h : GS S n m) (hc : CS S D) (i : Nat) (hi : i < 8) (name : ByteArray) : GS (delR S i name).1 n m ∧ CS (delR S i name).1 D := by
 unfold delR
 rcases ho : oldS (S.ar i) name with _ | ⟨k, e⟩
 · exact ⟨h, hc⟩
 · exact del_all h hc i hi k e (oldS_name ho).2
theorem read_zero (n k : Nat) (hk : k < n) : (BS.read (BS.fresh (List.replicate (512 * n) 0)) k) = List.replicate 512 0 := by
 show secOf (List.replicate (512 * n) 0) k = _
 unfold secOf
 rw [List.drop_replicate, List.take_replicate]
 congr 1
 omega
theorem fresh_n (n : Nat) : BS.n (BS.fresh (List.replicate (512 * n) 0)) = n := by
 unfold BS.n BS.fresh
 rw [List.length_replicate]
 omega
theorem GS.start (n : Nat) (hn : n ≤ 4096) (D : Nat → ByteArray → List Int) : GS (S0 (BS.fresh (List.replicate (512 * n) 0))) n 0 ∧ CS (S0 (BS.fresh (List.replicate (512 * n) 0))) D := by
 have e := fresh_n n
 refine ⟨⟨rfl, rfl, rfl, ⟨⟨?_, (show (0 : Nat) < 2 ^ 40 by decide)⟩, (by intro q hq; cases hq), (fun x hx => by have := List.eq_of_mem_replicate hx; omega), (by intro q hq; cases hq), by show (List.replicate (512 * n) (0 : Int)).length % 512 = 0; rw [List.length_replicate]; omega⟩, e, hn, fun i hi => ⟨rfl, ?_, ?_, ?_, List.nodup_nil, List.nodup_nil, (by intro e he; cases he), List.nodup_nil, (by intro e he; cases he), (by intro e he; cases he)⟩⟩, fun i hi => ⟨(by intro e he; cases he), fun k hk _ => ?_⟩⟩
 ·
  show (List.replicate (512 * n) (0 : Int)).length < _
  rw [List.length_replicate]
  omega
 · show i * (BS.n _ / 8) = _; rw [e]
 · show BS.n _ / 8 = _; rw [e]
 · show (BS.n _ / 8 + 7) / 8 = _; rw [e]
 ·
  have h1 : k < (n / 8 + 7) / 8 := by have : k < (BS.n (BS.fresh (List.replicate (512 * n) 0)) / 8 + 7) / 8 := hk; rw [e] at this; exact this
  have h2 : ((S0 (BS.fresh (List.replicate (512 * n) 0))).ar i).frm = i * (n / 8) := by show i * (BS.n _ / 8) = _; rw [e]
  rw [h2]
  have h3 : i * (n / 8) ≤ 7 * (n / 8) := Nat.mul_le_mul (by omega) (Nat.le_refl _)
  show (BS.read (BS.fresh _) _)[0]? = _
  rw [read_zero n _ (by omega)]
  rfl
theorem new_open (w : World) (n : Nat) (h1 : 1 ≤ n) (h2 : n ≤ 4096) (gs : Nat) (own : Nat → Nat) (t : Nat) (ht : t ≠ 0) (H : StA w own t gs (BS.fresh (List.replicate (512 * n) 0))) :
  Calls Tryz.prog 17 #[pt gs] w fun e w' => ∃ g own' ga, e = .returned (.tuple #[pt g, .int .i64 0]) ∧ w.heap.size ≤ g ∧ SvMem w' own' t g gs ga (S0 (BS.fresh (List.replicate (512 * n) 0))) ∧ Kp (k20 t) w own w' own' := by
 refine Open_zero w own t gs _ H ht ⟨?_, (show (0 : Nat) < 2 ^ 40 by decide)⟩ (by rw [fresh_n]; omega) (fun k hk => ?_)
 ·
  show (List.replicate (512 * n) (0 : Int)).length < _
  rw [List.length_replicate]
  omega
 ·
  rw [fresh_n] at hk
  rw [read_zero n k hk]
  rfl
theorem get_act (w : World) (own : Nat → Nat) (t g gs : Nat) (ga : Nat → Nat) (S : SV) (H : SvMem w own t g gs ga S) {n m : Nat} {D : Nat → ByteArray → List Int} (hg : GS S n m) (hc : CS S D) (hn : 8 ≤ n) (i : Nat) (hi : i < 8) (name : ByteArray) (hok : nameOk name = true) (hin : (oldS (S.ar i) name).isSome = true) :
  Calls Tryz.prog 32 #[pt g, .int .i64 ((i : Int) + 1), .string name] w (GetP w (D i name)) := by
 obtain ⟨⟨k, e⟩, ho⟩ := Option.isSome_iff_exists.1 hin
 have hs := nameOk_size hok
 have hA := hg.aok i hi
 have G := hg.ar i hi
 obtain ⟨h1, h2⟩ := oldS_some ho
 have hem := List.mem_of_getElem? h2
 have h3 := hA.eo e hem
 have h4 := follow_good ((hc i hi).ge e hem) ?_ (G.sr e hem) (by rw [G.hds]; omega) hA.s16
 ·
  have h5 := get_yes w own t g gs ga S H i hi hg.bok hA.fs name (by omega) hg.dead hok hA.el k h1 e h2 h3.1
  rw [h4, (oldS_name ho).1] at h5
  exact h5
 ·
  exact List.Nodup.sublist (by
   have : ∀ (l : List EN) (e : EN), e ∈ l → e.secs.Sublist (secsOf l) := by
    intro l
    induction l with
    | nil => intro e he; cases he
    | cons x l ih =>
     intro e he
     show e.secs.Sublist (x.secs ++ secsOf l)
     rcases List.mem_cons.1 he with he | he
     · subst he; exact List.sublist_append_left _ _
     · exact (ih e he).trans (List.sublist_append_right _ _)
   exact this _ e hem) G.sd
theorem get_miss (w : World) (own : Nat → Nat) (t g gs : Nat) (ga : Nat → Nat) (S : SV) (H : SvMem w own t g gs ga S) {n m : Nat} (hg : GS S n m) (i : Nat) (hi : i < 8) (name : ByteArray) (hok : nameOk name = true) (hin : oldS (S.ar i) name = none) :
  Calls Tryz.prog 32 #[pt g, .int .i64 ((i : Int) + 1), .string name] w fun e w' => e = .returned (.tuple #[.slice none 0 0, .int .i64 111]) ∧ Below w.heap.size w w' :=
 get_none w own t g gs ga S H i hi name (by have := nameOk_size hok; omega) hg.dead hok (by have := (hg.aok i hi).el; omega) (oldS_none hin)
end Go.Proofs.YtmofiicjaldmiaaGreatDoor.SwQ
end
section
namespace Go.Proofs.YtmofiicjaldmiaaGreatDoor.SwR
open Go.RowKit Go.Shelf YtmofiicjaldmiaaGreatDoorW.PrintWords YtmofiicjaldmiaaGreatDoorW.PrintLast SvA SvB SvC SvD SvE SvF SvG SvH SvI SvJ SvK SvL SvM SvN SvO SvP SvQ SvR SvS SvT SvU SvV SvW SvX SvY SvZ SwA SwB SwC SwD SwE SwF SwG SwI SwJ SwK SwH SwL SwM SwN SwO SwP SwQ
set_option linter.unusedVariables false
set_option linter.unusedSimpArgs false
open Go.Lib
theorem ActR.back {w W : World} {own own' : Nat → Nat} {t g gs : Nat} {ga : Nat → Nat} {r : SV × Int} {e : Ending} {w' : World} (h : ActR W own' t g gs ga r e w') (hk : Kp (k20 t) w own W own') : ActR w own t g gs ga r e w' := by
 obtain ⟨h1, o, h2, h3⟩ := h
 exact ⟨h1, o, h2, hk.trans h3⟩
theorem put_at (w : World) (own : Nat → Nat) (t g gs : Nat) (ga : Nat → Nat) (S : SV) (H : SvMem w own t g gs ga S) (ht : t ≠ 0) {n m : Nat} (hg : GS S n m) (hm : m + 1 < 4294967296) (W : World) (h : Below w.heap.size w W) (i : Nat) (hi : i < 8) (name : ByteArray) (hok : nameOk name = true) (A : Option Addr) (k c : Nat) (data : List Int) (hB : BytesAt W A k data) (hc : k ≤ c) (hA : ∀ q, A = some q → w.heap.size ≤ q.block) (hu : u8s data) (hn : k ≤ 131072) :
  Calls Tryz.prog 23 #[pt g, .int .i64 ((i : Int) + 1), .string name, .slice A k c] W (ActR w own t g gs ga (putR S i name data)) := by
 have hk : data.length = k := hB.1
 subst hk
 refine (put_act W (tagged w own (t + 20)) t g gs ga S (H.keep (Kp.below (ts := fun _ => False) h (t + 20)) (fun q => q) (fun _ _ _ q => q)) ht hg hm i hi name hok A c (t + 20) data ⟨hB, hc, fun q hq _ => tagged_new (hA q hq)⟩ (by unfold k3; omega) hu hn).mono ?_
 intro e w' hr
 exact ActR.back hr (Kp.below h (t + 20))
theorem used_at (w : World) (own : Nat → Nat) (t g gs : Nat) (ga : Nat → Nat) (S : SV) (H : SvMem w own t g gs ga S) {n m : Nat} (hg : GS S n m) (W : World) (h : Below w.heap.size w W) (i : Nat) (hi : i < 8) :
    Calls Tryz.prog 20 #[pt g, .int .i64 ((i : Int) + 1)] W fun e w' => e = .returned (.tuple #[.int .i64 (usedS (S.ar i).ents : Int), .int .i64 0]) ∧ Below W.heap.size W w' := used_yes W _ t g gs ga S (H.below h) i hi hg.dead (hg.aok i hi)
theorem list_at (w : World) (own : Nat → Nat) (t g gs : Nat) (ga : Nat → Nat) (S : SV) (H : SvMem w own t g gs ga S) {n m : Nat} (hg : GS S n m) (W : World) (h : Below w.heap.size w W) (i : Nat) (hi : i < 8) :
    Calls Tryz.prog 25 #[pt g, .int .i64 ((i : Int) + 1)] W (ListP W (S.ar i).ents) := list_yes W _ t g gs ga S (H.below h) i hi hg.dead (hg.aok i hi)
theorem get_at (w : World) (own : Nat → Nat) (t g gs : Nat) (ga : Nat → Nat) (S : SV) (H : SvMem w own t g gs ga S) {n m : Nat} {D : Nat → ByteArray → List Int} (hg : GS S n m) (hc : CS S D) (hn : 8 ≤ n) (W : World) (h : Below w.heap.size w W) (i : Nat) (hi : i < 8) (name : ByteArray) (hok : nameOk name = true) (hin : (oldS (S.ar i) name).isSome = true) :
    Calls Tryz.prog 32 #[pt g, .int .i64 ((i : Int) + 1), .string name] W (GetP W (D i name)) := get_act W _ t g gs ga S (H.below h) hg hc hn i hi name hok hin
def Alone (S : SV) (i : Nat) (name : ByteArray) (v : Int) (k : Nat) : Prop := ∃ e, (S.ar i).ents = [e] ∧ e.hd.name = name ∧ e.hd.ver = v ∧ e.hd.size = (k : Int)
theorem oldS_nil {a : AR} (h : a.ents = []) (name : ByteArray) : oldS a name = none := by
 unfold oldS
 rw [h]
 rfl
theorem oldS_one {a : AR} {e : EN} (h : a.ents = [e]) : oldS a e.hd.name = some (0, e) := by
 unfold oldS
 rw [h]
 have h1 : findI (fun x : EN => x.hd.name == e.hd.name) [e] = 0 := by
  simp only [findI]
  rw [if_pos ((ba_beq _ _).2 rfl)]
 rw [h1]
 rfl
theorem put_ents (S : SV) (i : Nat) (old : Option (Nat × EN)) (name : ByteArray) (data : List Int) : ((putS S i old name data).ar i).ents = oldE old (S.ar i).ents ++ [newE (S.ar i) ((i : Int) + 1) name (verN old) data] := by
  rw [putS_eq, setE_ar, if_pos rfl]
theorem alone_first {S : SV} {n m i : Nat} (hg : GS S n m) (hi : i < 8) (h : (S.ar i).ents = []) (name : ByteArray) (data : List Int) (hr : 0 < (S.ar i).heads ∧ many data.length ≤ (S.ar i).sec - (S.ar i).heads) : (putR S i name data).2 = 0 ∧ Alone (putR S i name data).1 i name 1 data.length := by
 have hroom : roomS (S.ar i) data.length = true := ((hg.ar i hi).room _).2 (by rw [h]; exact ⟨hr.1, by show 0 + _ ≤ _; omega⟩)
 unfold putR
 rw [if_pos hroom, oldS_nil h]
 refine ⟨rfl, _, by rw [put_ents, h]; rfl, rfl, rfl, rfl⟩
theorem Alone.used {S : SV} {n m i : Nat} (hg : GS S n m) (hi : i < 8) {name : ByteArray} {v : Int} {k : Nat} (h : Alone S i name v k) : usedS (S.ar i).ents = 1 + many k ∧ (secsOf (S.ar i).ents).length = many k := by
 obtain ⟨e, h1, h2, h3, h4⟩ := h
 have h5 := ((hg.ar i hi).ok e (by rw [h1]; exact List.mem_cons_self)).2.2.2.2.2
 rw [h4, Int.toNat_natCast] at h5
 rw [usedS_eq, h1]
 have : secsOf [e] = e.secs := by simp [secsOf]
 rw [this, h5]
 exact ⟨rfl, rfl⟩
theorem alone_next {S : SV} {n m i : Nat} (hg : GS S n m) (hi : i < 8) {name : ByteArray} {v : Int} {k : Nat} (h : Alone S i name v k) (data : List Int) (hr : 1 < (S.ar i).heads ∧ many k + many data.length ≤ (S.ar i).sec - (S.ar i).heads) : (putR S i name data).2 = 0 ∧ Alone (putR S i name data).1 i name (v + 1) data.length := by
 have hu := (Alone.used hg hi h).2
 obtain ⟨e, h1, h2, h3, h4⟩ := h
 have hroom : roomS (S.ar i) data.length = true := ((hg.ar i hi).room _).2 (by rw [hu, h1]; exact ⟨hr.1, hr.2⟩)
 unfold putR
 rw [if_pos hroom, ← h2, oldS_one h1]
 refine ⟨rfl, newE (S.ar i) ((i : Int) + 1) e.hd.name (verN (some (0, e))) data, by rw [put_ents, h1]; rfl, rfl, ?_, rfl⟩
 show e.hd.ver + 1 = v + 1
 rw [h3]
theorem putR_geo (S : SV) (i : Nat) (name : ByteArray) (data : List Int) (j : Nat) : ((putR S i name data).1.ar j).heads = (S.ar j).heads ∧ ((putR S i name data).1.ar j).sec = (S.ar j).sec := by
 unfold putR
 split
 ·
  dsimp only
  rw [putS_eq, setE_ar]
  split
  · rename_i e; subst e; exact ⟨rfl, rfl⟩
  · exact ⟨rfl, rfl⟩
 · exact ⟨rfl, rfl⟩
theorem ActR.ok {w : World} {own : Nat → Nat} {t g gs : Nat} {ga : Nat → Nat} {r : SV × Int} {e : Ending} {w' : World} (h : ActR w own t g gs ga r e w') {x : Int} (hx : r.2 = x) : e = .returned (.int .i64 x) ∧ ∃ own', SvMem w' own' t g gs ga r.1 ∧ Kp (k20 t) w own w' own' := by
  rw [← hx]; exact h
theorem Alone.some {S : SV} {i : Nat} {name : ByteArray} {v : Int} {k : Nat} (h : Alone S i name v k) : (oldS (S.ar i) name).isSome = true := by
 obtain ⟨e, h1, h2, _⟩ := h
 rw [← h2, oldS_one h1]
 rfl
theorem lit_rows_fr {α : Type} {enc : α → Value} {h1 : ∀ x, (enc x).oneCell' = true} {W : World} {n e : Nat} {fr : Nat × Nat} {xs : List α} (h : W.heap[n]? = some (.cells (xs.map enc).toArray e fr)) (hl : xs.length ≤ 1000) : ReadsRow ((Kd.scalar enc h1).K W) 1 W (some ⟨n, 0, none⟩) xs.length xs := by
 refine ⟨rfl, by omega, fun _ => ⟨_, rfl, fun j p hj => ⟨[enc p], rfl, rfl, fun i u hu => ?_⟩⟩⟩
 rw [add_plain]
 have hi : i = 0 := by
  have := (List.getElem?_eq_some_iff.1 hu).1
  simp at this
  exact this
 subst hi
 simp at hu
 subst hu
 simp [World.cell?, h, hj]
def bx2 : ByteArray := ⟨#[97]⟩
def ten : List Int := [116, 101, 110, 32, 98, 121, 116, 101, 115, 46]
set_option maxRecDepth 100000 in
set_option maxHeartbeats 4000000 in
theorem awake_ok (w : World) : Calls Tryz.prog 14 #[] w fun e w' => e = .returned (.bool true) ∧ Below w.heap.size w w' := by
 have HNEW := Lib.hid (new_ok w 196 (by omega) (by omega))
 obtain ⟨g0, c0⟩ := GS.start 196 (by omega) (fun _ _ => [])
 have e0 : ((S0 (BS.fresh (List.replicate (512 * 196) 0))).ar 0).ents = [] := rfl
 have hh0 : ((S0 (BS.fresh (List.replicate (512 * 196) 0))).ar 0).heads = 3 ∧ ((S0 (BS.fresh (List.replicate (512 * 196) 0))).ar 0).sec = 24 := ⟨(g0.ar 0 (by omega)).hds, (g0.ar 0 (by omega)).sec⟩
 have HOP := Lib.hid (fun (W : World) (gs : Nat) (own : Nat → Nat) (H : StA W own 100 gs (BS.fresh (List.replicate (512 * 196) 0))) => new_open W 196 (by omega) (by omega) gs own 100 (by decide) H)
 generalize S0 (BS.fresh (List.replicate (512 * 196) 0)) = s0 at *
 have hz : u8s (zeros 600) := u8s_zeros _
 have hzl := zeros_len 600
 obtain ⟨r1, a1⟩ := alone_first g0 (i := 0) (by omega) e0 bx2 (zeros 600) (by rw [hh0.1, hh0.2, hzl]; decide)
 obtain ⟨g1, c1⟩ := putR_all g0 c0 0 (by omega) bx2 (by decide) (zeros 600) hz (by rw [hzl]; omega) (by omega)
 have hg1 := putR_geo s0 0 bx2 (zeros 600) 0
 rw [hh0.1, hh0.2] at hg1
 have u1 := (Alone.used g1 (by omega) a1).1
 rw [hzl] at u1 a1
 have HP1 := Lib.hid (fun (w : World) (own : Nat → Nat) (g gs : Nat) (ga : Nat → Nat) (H : SvMem w own 100 g gs ga s0) (W : World) (h : Below w.heap.size w W) (A : Option Addr) (hB : BytesAt W A 600 (zeros 600)) (hA : ∀ q, A = some q → w.heap.size ≤ q.block) => put_at w own 100 g gs ga s0 H (by decide) g0 (by omega) W h 0 (by omega) bx2 (by decide) A 600 600 (zeros 600) hB (Nat.le_refl _) hA hz (by omega))
 generalize hc1 : (if roomS (s0.ar 0) (zeros 600).length then putD (fun _ _ => []) 0 bx2 (zeros 600) else (fun _ _ => [])) = d1 at c1
 generalize hs1 : putR s0 0 bx2 (zeros 600) = s1 at *
 obtain ⟨r2, a2⟩ := alone_next g1 (i := 0) (by omega) a1 ten (by rw [hg1.1, hg1.2]; decide)
 obtain ⟨g2, c2⟩ := putR_all g1 c1 0 (by omega) bx2 (by decide) ten (by decide) (by decide) (by omega)
 have hro : roomS (s1.1.ar 0) ten.length = true := by
  cases h : roomS (s1.1.ar 0) ten.length
  ·
   unfold putR at r2
   rw [h] at r2
   cases r2
  · rfl
 rw [hro, if_pos rfl] at c2
 have u2 := (Alone.used g2 (by omega) a2).1
 have HP2 := Lib.hid (fun (w : World) (own : Nat → Nat) (g gs : Nat) (ga : Nat → Nat) (H : SvMem w own 100 g gs ga s1.1) (W : World) (h : Below w.heap.size w W) (A : Option Addr) (hB : BytesAt W A 10 ten) (hA : ∀ q, A = some q → w.heap.size ≤ q.block) => put_at w own 100 g gs ga s1.1 H (by decide) g1 (by omega) W h 0 (by omega) bx2 (by decide) A 10 10 ten hB (Nat.le_refl _) hA (by decide) (by omega))
 generalize hs2 : putR s1.1 0 bx2 ten = s2 at *
 have HU1 := Lib.hid (fun (w : World) (own : Nat → Nat) (g gs : Nat) (ga : Nat → Nat) (H : SvMem w own 100 g gs ga s1.1) => used_at w own 100 g gs ga s1.1 H g1 w (Below.refl _ _) 0 (by omega))
 have HU2 := Lib.hid (fun (w : World) (own : Nat → Nat) (g gs : Nat) (ga : Nat → Nat) (H : SvMem w own 100 g gs ga s2.1) => used_at w own 100 g gs ga s2.1 H g2 w (Below.refl _ _) 0 (by omega))
 have HG := Lib.hid (fun (w : World) (own : Nat → Nat) (g gs : Nat) (ga : Nat → Nat) (H : SvMem w own 100 g gs ga s2.1) (W : World) (h : Below w.heap.size w W) => get_at w own 100 g gs ga s2.1 H g2 c2 (by omega) W h 0 (by omega) bx2 (by decide) a2.some)
 have hten : putD d1 0 bx2 ten 0 bx2 = ten := by unfold putD; rw [if_pos rfl, updD_self]
 rw [hten] at HG
 rw [show usedS (s1.1.ar 0).ents = 3 from u1] at HU1
 rw [show usedS (s2.1.ar 0).ents = 2 from u2] at HU2
 have hmk : ∀ W : World, (Instr.makeSlice 43 (.int .i64 600) (.int .i64 600)).run Tryz.prog W = .ok (.slice (some ⟨W.heap.size, 0, none⟩) 600 600) (W.alloc (.cells (madeCells #[.int .u8 0] 600) 5)) := print_make (P := Tryz.prog) 43 5 .u8 1 Tryz.underlying43 info5 (by decide) 600 (by omega)
 have hBA : ∀ W : World, BytesAt (W.alloc (.cells (madeCells #[.int .u8 0] 600) 5)) (some ⟨W.heap.size, 0, none⟩) 600 (zeros 600) := fun W => (ow_len (ow_made W 600 (by decide))).2.2
 generalize zeros 600 = z600 at *
 generalize madeCells #[.int .u8 0] 600 = mc at *
 have HBA := Lib.hid hBA
 have tok1 : True := trivial
 have tok2 : True := trivial
 have hcs := fun (w : World) (C : Array Value) (n c : Nat) => Lib.run_convert_bytes_const (P := Tryz.prog) w 43 5 C n c Tryz.underlying43 Tryz.underlying5
 have R1 := Lib.hid r1
 have R2 := Lib.hid r2
 have hst : strOfNums ten = ⟨#[116, 101, 110, 32, 98, 121, 116, 101, 115, 46]⟩ := by decide
 clear hBA r1 r2 u1 u2 a1 a2 hro hten g0 g1 g2 c0 c1 c2 hs1 hs2 hc1 e0 hh0 hz hzl hg1
 unfold bx2 at *
 go_enter Tryz.func14, Tryz.ntmps14
 go_wp2_with (first
  | (go_at_call 16; refine HNEW.out.mono ?_; rintro e w1 ⟨gs, rfl, hgs, hb1, hN⟩; obtain ⟨o1, st1, k1⟩ := hN (fun _ => 0) 100; have K1 := Lib.hid k1; have ST1 := Lib.hid st1; clear k1 st1 hN hgs hb1)
  | (go_at_call 17; refine Calls.mono (HOP.out _ gs o1 ST1.out) ?_; rintro e w2 ⟨g, o2, ga, rfl, hg2x, M2, k2⟩; have K2 := Lib.hid (And.intro M2 k2); clear M2 k2 hg2x)
  | (go_at_call 23; have _t := tok1; refine Calls.mono (HP1.out w2 o2 g gs ga K2.out.1 _ (ba _) _ (HBA.out w2) (fun q hq => by injection hq with hq; subst hq; exact Nat.le_refl _)) ?_; clear tok1; intro e w3 h3; obtain ⟨rfl, o3, M3, k3⟩ := ActR.ok h3 R1.out; have K3 := Lib.hid (And.intro M3 k3); clear M3 k3 h3)
  | (go_at_call 20; have _t := tok2; refine Calls.mono (HU1.out w3 o3 g gs ga K3.out.1) ?_; clear tok2; rintro e w4 ⟨rfl, hb4⟩; have HB4 := Lib.hid hb4; clear hb4)
  | (go_at_call 23; refine Calls.mono (HP2.out w3 o3 g gs ga K3.out.1 _ (HB4.out.alloc HB4.out.size _) _ (lit_rows_fr (enc := Value.int .u8) (h1 := fun _ => rfl) (xs := ten) (heap_alloc_new w4 _) (by decide)) (fun q hq => by injection hq with hq; subst hq; exact HB4.out.size)) ?_; intro e w5 h5; obtain ⟨rfl, o5, M5, k5⟩ := ActR.ok h5 R2.out; have K5 := Lib.hid (And.intro M5 k5); clear M5 k5 h5)
  | (go_at_call 20; refine Calls.mono (HU2.out w5 o5 g gs ga K5.out.1) ?_; rintro e w6 ⟨rfl, hb6⟩; have HB6 := Lib.hid hb6; clear hb6)
  | (go_at_call 32; refine Calls.mono (HG.out w5 o5 g gs ga K5.out.1 w6 HB6.out) ?_; rintro e w7 ⟨z, o7, rfl, q1, q2, q3⟩; have hcv := conv_str (w := w7) (c := z.c) (ow_len q1).2.2; rw [hst] at hcv; have HB7 := Lib.hid q3; clear q1 q2 q3; unfold Sl.enc))
 go_ret
 have hk : Kp (k20 100) w (fun _ => 0) w5 o5 := (((K1.out.mono (fun _ h => h.elim)).trans K2.out.2).trans K3.out.2).trans K5.out.2
 have hb5 := kp_below hk (by intro h; have := h.1; omega)
 exact ⟨rfl, (hb5.trans (HB6.out.mono hb5.size)).trans (HB7.out.mono (Nat.le_trans hb5.size HB6.out.size))⟩
end Go.Proofs.YtmofiicjaldmiaaGreatDoor.SwR
end
section
namespace Go.Proofs.YtmofiicjaldmiaaGreatDoor.SwS
open Go.RowKit Go.Shelf YtmofiicjaldmiaaGreatDoorW.PrintWords YtmofiicjaldmiaaGreatDoorW.PrintLast SvA SvB SvC SvD SvE SvF SvG SvH SvI SvJ SvK SvL SvM SvN SvO SvP SvQ SvR SvS SvT SvU SvV SvW SvX SvY SvZ SwA SwB SwC SwD SwE SwF SwG SwI SwJ SwK SwH SwL SwM SwN SwO SwP SwQ SwR
set_option linter.unusedVariables false
set_option linter.unusedSimpArgs false
open Go.Lib
theorem kp_zero {ts : Nat → Prop} {w w' : World} (h : Below w.heap.size w w') : Kp ts w (fun _ => 0) w' (fun _ => 0) := ⟨h.os, h.tape, h.output, h.size, fun k hk _ => ⟨rfl, h.block k hk⟩⟩
end Go.Proofs.YtmofiicjaldmiaaGreatDoor.SwS
end
section
namespace Go.Proofs.YtmofiicjaldmiaaGreatDoor.SwT
open Go.RowKit Go.Shelf YtmofiicjaldmiaaGreatDoorW.PrintWords YtmofiicjaldmiaaGreatDoorW.PrintLast SvA SvB SvC SvD SvE SvF SvG SvH SvI SvJ SvK SvL SvM SvN SvO SvP SvQ SvR SvS SvT SvU SvV SvW SvX SvY SvZ SwA SwB SwC SwD SwE SwF SwG SwI SwJ SwK SwH SwL SwM SwN SwO SwP SwQ SwR SwS
set_option linter.unusedVariables false
set_option linter.unusedSimpArgs false
open Go.ChangeShapes Go.WideShapes Go.Deep Go.Lib Go.Joins
section
variable {H : Type} {enc : TypeId × Value → H} {P : Program} {w : World} {base : Nat} {spare : Nat → Bool} {held : Bool}
theorem open_slice_fields {t e : TypeId} {fs : Array Field} {fuel : Nat} {cs : List Value} {x : DataW H × List MemPlace} (ht : P.underlying t = some (.slice e)) (he : P.underlying e = some (.struct fs))
  (hone : oneCellFields P fs = true) (hC : P.cellsOf e = fs.size) (h : DataW.trod enc P w base spare held fuel t cs = some x) :
  (cs = [.slice none 0 0] ∧ x = (.nil, [])) ∨
  ∃ (a : Addr) (len cap m : Nat) (D : Nat → DataW H) (Pl : Nat → List MemPlace), cs = [.slice (some a) len cap] ∧ base ≤ a.block ∧ len ≤ cap ∧ cap ≤ maxLen ∧ m = (if spare a.block then cap else len) ∧
   x = (.slice ((List.range len).map D) ((List.range (m - len)).map fun j => D (len + j)), MemPlace.row a (m * fs.size) ++ (List.range m).flatMap Pl) ∧
   ∀ i, i < m → ∃ (ys : List (DataW H × List MemPlace)) (n : Nat), D i = .agg (ys.map (·.1)) ∧ Pl i = ys.flatMap (·.2) ∧ ys.length = fs.size ∧
    ∀ (j : Nat) (f : Field), fs[j]? = some f → ∃ (v : Value) (y : DataW H × List MemPlace), w.cell? (a.add (i * fs.size + j)) = some v ∧ ys[j]? = some y ∧ DataW.trod enc P w base spare held n f.type [v] = some y := by
 rcases open_slice ht h with h0 | ⟨a, len, cap, m, n, D, Pl, hcs, hb, hl, hm, hmm, hx, hi⟩
 · exact .inl h0
 ·
  refine .inr ⟨a, len, cap, m, D, Pl, hcs, hb, hl, hm, hmm, by rw [hC] at hx; exact hx, fun i him => ?_⟩
  obtain ⟨cs', hc, ht'⟩ := hi i him
  rw [hC] at hc
  obtain ⟨ys, n', hn', hy, hlen, hyl, hf⟩ := DataW.trod_struct he ht'
  obtain ⟨_, hcl, hat⟩ := World.cells?_some hc
  simp only [Prod.mk.injEq] at hy
  refine ⟨ys, n', hy.1, hy.2, hyl, fun j f hj => ?_⟩
  obtain ⟨ho, hk⟩ := hone_of hone j f hj
  have hjl : j < fs.size := (Array.getElem?_eq_some_iff.1 hj).1
  have hcell := hat j hjl
  have hv : cs'[j]? = some (cs'[j]'(by omega)) := List.getElem?_eq_getElem (by omega)
  have h1 := hf j f hj
  rw [ho, hk] at h1
  have hone' : (cs'.drop j).take 1 = [cs'[j]'(by omega)] := by
   rw [List.drop_eq_getElem_cons (by omega)]
   rfl
  rw [hone'] at h1
  have hys : ys[j]? = some (ys[j]'(by omega)) := List.getElem?_eq_getElem (by omega)
  refine ⟨_, _, ?_, hys, h1.trans hys⟩
  rw [← Go.Deep.add_add, hcell, hv]
end
def AcAt (w : World) (A : Option Addr) (xs : List AC) : Prop := ∀ (k : Nat) (x : AC), xs[k]? = some x → x.wf ∧ ∃ ad : Addr, A = some ad ∧ w.cell? (ad.add (k * 4)) = some (.int .i64 x.kind) ∧ w.cell? ⟨(ad.add (k * 4)).block, (ad.add (k * 4)).off + 1, none⟩ = some (.int .i64 x.ten) ∧
  w.cell? ⟨(ad.add (k * 4)).block, (ad.add (k * 4)).off + 2, none⟩ = some (.int .i64 x.nm) ∧ w.cell? ⟨(ad.add (k * 4)).block, (ad.add (k * 4)).off + 3, none⟩ = some (.int .i64 x.bytes)
theorem AcAt.below {w w' : World} {A : Option Addr} {xs : List AC} (h : AcAt w A xs) (hb : Below w.heap.size w w') : AcAt w' A xs := fun k x hx => by
 obtain ⟨h0, ad, h1, h2, h3, h4, h5⟩ := h k x hx
 exact ⟨h0, ad, h1, cellOf hb h2, cellOf hb h3, cellOf hb h4, cellOf hb h5⟩
theorem wf_i64 {n : Int} (h : (Lit.int .i64 n).wf = true) : i64s n := by
 simp [Lit.wf, IntKind.min, IntKind.max, IntKind.signed, IntKind.bits] at h
 exact ⟨by omega, by omega⟩
theorem add_field (x : Addr) (s j : Nat) (hj : 0 < j) : x.add (s + j) = ⟨(x.add s).block, (x.add s).off + j, none⟩ := by
 rw [← Go.Deep.add_add]
 generalize x.add s = y
 unfold Addr.add
 rw [if_neg (by omega)]
set_option maxRecDepth 100000 in
theorem open_acts {H : Type} {enc : TypeId × Value → H} {W : World} {v : Value} {d : DataW H} {p : List MemPlace} (hv : Value.okWide Tryz.prog W .any 0 22 v) (h : DataW.Trod enc Tryz.prog W 0 (fun _ => true) true 22 v d p) :
  ∃ (A : Option Addr) (c : Nat) (xs : List AC), v = .slice A xs.length c ∧ AcAt W A xs ∧ xs.length ≤ c ∧ xs.length ≤ 9223372036854775807 := by
 obtain ⟨A, n, c, rfl⟩ := okWide_slice Tryz.underlying22 hv
 obtain ⟨fuel, hf⟩ := h
 rcases open_slice_fields Tryz.underlying22 Tryz.underlying33 (by kernel_rfl) (by kernel_rfl) hf with ⟨hcs, _⟩ | ⟨a, len, cap, m, D, Pl, hcs, _, hl, hm, hmm, hx, hi⟩
 ·
  simp [Value.cells] at hcs
  obtain ⟨rfl, rfl, rfl⟩ := hcs
  exact ⟨none, 0, [], rfl, (fun k x hx => by simp at hx), by simp, by simp⟩
 ·
  simp [Value.cells] at hcs
  obtain ⟨rfl, rfl, rfl⟩ := hcs
  have hcm : c = m := by rw [hmm]; simp
  have hone : ∀ i, ∃ x : AC, i < n → x.wf ∧ W.cell? (a.add (i * 4)) = some (.int .i64 x.kind) ∧ W.cell? ⟨(a.add (i * 4)).block, (a.add (i * 4)).off + 1, none⟩ = some (.int .i64 x.ten) ∧ W.cell? ⟨(a.add (i * 4)).block, (a.add (i * 4)).off + 2, none⟩ = some (.int .i64 x.nm) ∧ W.cell? ⟨(a.add (i * 4)).block, (a.add (i * 4)).off + 3, none⟩ = some (.int .i64 x.bytes) := fun i => by
   by_cases hin : i < n
   ·
    obtain ⟨ys, k, hD, _, hys, hf⟩ := hi i (by omega)
    obtain ⟨v0, y0, c0, _, t0⟩ := hf 0 _ rfl
    obtain ⟨v1, y1, c1, _, t1⟩ := hf 1 _ rfl
    obtain ⟨v2, y2, c2, _, t2⟩ := hf 2 _ rfl
    obtain ⟨v3, y3, c3, _, t3⟩ := hf 3 _ rfl
    obtain ⟨n0, e0, _, w0⟩ := DataW.trod_int (k := .i64) Tryz.underlying3 t0
    obtain ⟨n1, e1, _, w1⟩ := DataW.trod_int (k := .i64) Tryz.underlying3 t1
    obtain ⟨n2, e2, _, w2⟩ := DataW.trod_int (k := .i64) Tryz.underlying3 t2
    obtain ⟨n3, e3, _, w3⟩ := DataW.trod_int (k := .i64) Tryz.underlying3 t3
    simp at e0 e1 e2 e3
    subst e0 e1 e2 e3
    exact ⟨⟨n0, n1, n2, n3⟩, fun _ => ⟨⟨wf_i64 w0, wf_i64 w1, wf_i64 w2, wf_i64 w3⟩, c0, by rw [← add_field _ _ 1 (by omega)]; exact c1, by rw [← add_field _ _ 2 (by omega)]; exact c2, by rw [← add_field _ _ 3 (by omega)]; exact c3⟩⟩
   · exact ⟨⟨0, 0, 0, 0⟩, fun h => absurd h hin⟩
  obtain ⟨g, hg⟩ := Classical.axiomOfChoice hone
  have hlen : ((List.range n).map g).length = n := by simp
  refine ⟨some a, c, (List.range n).map g, by rw [hlen], fun k x hx => ?_, by rw [hlen]; exact hl, by rw [hlen]; unfold maxLen at hm; omega⟩
  have hjn : k < n := by
   have := (List.getElem?_eq_some_iff.1 hx).1
   omega
  rw [List.getElem?_map, List.getElem?_range hjn] at hx
  simp at hx
  subst hx
  obtain ⟨g0, g1, g2, g3, g4⟩ := hg k hjn
  exact ⟨g0, a, rfl, g1, g2, g3, g4⟩
theorem does_at (w : World) (own : Nat → Nat) (t g gs : Nat) (ga : Nat → Nat) (S : SV) (H : SvMem w own t g gs ga S) (ht : t ≠ 0) {n m : Nat} (hg : GS S n m) (hm : m + 1 < 4294967296) (W : World) (h : Below w.heap.size w W) (a : AC) (ha : a.wf) (most : Int) (h1 : 1 ≤ most) (h2 : most ≤ 100000) :
  Calls Tryz.prog 18 #[a.enc, pt g, .int .i64 most] W (ActR w own t g gs ga (doS S a most)) := by
 refine (does_ok W (tagged w own 0) t g gs ga S (H.below h) ht n m hg hm a ha most h1 h2).mono ?_
 intro e w' hr
 exact ActR.back hr (Kp.below h 0)
def doD (S : SV) (D : Nat → ByteArray → List Int) (a : AC) (most : Int) : Nat → ByteArray → List Int := if a.puts = true ∧ roomS (S.ar a.t0) (a.data most).length = true then putD D a.t0 a.name (a.data most) else D
theorem doS_all {S : SV} {n m : Nat} {D : Nat → ByteArray → List Int} (h : GS S n m) (hc : CS S D) (a : AC) (most : Int) (h1 : 1 ≤ most) (h2 : most ≤ 100000) (hm : m + 1 < 4294967296) : GS (doS S a most).1 n (m + 1) ∧ CS (doS S a most).1 (doD S D a most) := by
 unfold doS doD
 cases hp : a.puts
 ·
  rw [if_neg (by decide), if_neg (by simp)]
  obtain ⟨x, y⟩ := delR_all h hc a.t0 a.t0_lt.1 a.name
  exact ⟨x.mono (by omega), y⟩
 ·
  rw [if_pos rfl]
  have := putR_all h hc a.t0 a.t0_lt.1 a.name (AC.name_ok a) (a.data most) (dataS_u8 _ _) (by rw [AC.data_len]; have := (a.len_lt most (by omega)).1; omega) hm
  refine ⟨this.1, ?_⟩
  cases hr : roomS (S.ar a.t0) (a.data most).length
  ·
   rw [hr] at this
   rw [if_neg (by simp)]
   exact this.2
  ·
   rw [hr] at this
   rw [if_pos ⟨rfl, rfl⟩]
   exact this.2
theorem doS_put {S : SV} {a : AC} {most : Int} (hp : a.puts = true) : (doS S a most).2 = if roomS (S.ar a.t0) (a.len most) then 0 else 112 := by
 unfold doS putR
 rw [if_pos hp, AC.data_len]
 split <;> rfl
end Go.Proofs.YtmofiicjaldmiaaGreatDoor.SwT
end
