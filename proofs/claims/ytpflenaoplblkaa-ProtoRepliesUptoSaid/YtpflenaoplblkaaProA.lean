import Derived.Test.YtpflenaoplblkaaProg
import Derived.Test.YtpflenaoplblkaaWWords
import Derived.Test.YtpflenaoplblkaaWMore
import Derived.WalkKit
import Derived.ProofKit
import Derived.OpenShut
import Derived.Outline
import Derived.Handy
import Derived.WalkLawsBesides
import Derived.WalkSpells
import Derived.Laws.BitsLemmas
import Derived.Lib.Hide
import Derived.Deep.QuietTactic
import Derived.BigQuiet
import Derived.Deep.LoopGhost
import Derived.Deep.RegionWith
namespace Go.Proofs.Ytpflenaoplblkaa.ProA
open Go.RowKit Go.Proofs.YtpflenaoplblkaaW.PrintWords
set_option linter.unusedVariables false
/-! 'Tu S w w'': of the blocks of w only those of S may have turned; others may be new. -/
structure Tu (S : List Nat) (w w' : World) : Prop where
  os : w'.os = w.os
  tape : w'.tape = w.tape
  output : w'.output = w.output
  size : w.heap.size ≤ w'.heap.size
  block : ∀ k, k < w.heap.size → k ∉ S → w'.heap[k]? = w.heap[k]?
namespace Tu
theorem refl (S : List Nat) (w : World) : Tu S w w := ⟨rfl, rfl, rfl, Nat.le_refl _, fun _ _ _ => rfl⟩
theorem trans {S : List Nat} {a b c : World} (h : Tu S a b) (k : Tu S b c) : Tu S a c :=
  ⟨k.os.trans h.os, k.tape.trans h.tape, k.output.trans h.output, Nat.le_trans h.size k.size, fun i hi hs => (k.block i (Nat.lt_of_lt_of_le hi h.size) hs).trans (h.block i hi hs)⟩
/-- what turns in the second step may be of blocks that the first one made -/
theorem trans' {S T : List Nat} {a b c : World} (h : Tu S a b) (k : Tu T b c) (hT : ∀ i, i ∈ T → i ∈ S ∨ a.heap.size ≤ i) : Tu S a c :=
  ⟨k.os.trans h.os, k.tape.trans h.tape, k.output.trans h.output, Nat.le_trans h.size k.size, fun i hi hs => (k.block i (Nat.lt_of_lt_of_le hi h.size) (fun ht => by rcases hT i ht with x | x; exact hs x; omega)).trans (h.block i hi hs)⟩
theorem mono {S T : List Nat} {a b : World} (h : Tu S a b) (hs : ∀ i, i ∈ S → i ∈ T ∨ a.heap.size ≤ i) : Tu T a b :=
  ⟨h.os, h.tape, h.output, h.size, fun i hi ht => h.block i hi (fun x => by rcases hs i x with y | y; exact ht y; omega)⟩
theorem of_below {S : List Nat} {w w' : World} (h : Below w.heap.size w w') : Tu S w w' := ⟨h.os, h.tape, h.output, h.size, fun k hk _ => h.block k hk⟩
theorem below {S : List Nat} {w w' : World} {B : Nat} (h : Tu S w w') (hB : B ≤ w.heap.size) (hS : ∀ k, k ∈ S → B ≤ k) : Below B w w' :=
  ⟨h.os, h.tape, h.output, h.size, fun k hk => h.block k (Nat.lt_of_lt_of_le hk hB) (fun x => by have := hS k x; omega)⟩
theorem drewN {S : List Nat} {a w : World} (h : Tu S a w) (n : Nat) : Tu S a (w.drewN n) := ⟨h.os, h.tape, h.output, h.size, h.block⟩
theorem drew {S : List Nat} {a w : World} (h : Tu S a w) : Tu S a w.drew := ⟨h.os, h.tape, h.output, h.size, h.block⟩
theorem alloc {S : List Nat} {a w : World} (h : Tu S a w) (o : Obj) : Tu S a (w.alloc o) :=
  h.trans ⟨rfl, rfl, rfl, by simp, fun k hk _ => Below.heap_alloc _ _ _ hk⟩
theorem setCell {S : List Nat} {a w : World} (h : Tu S a w) {p : Addr} (hp : p.block ∈ S ∨ a.heap.size ≤ p.block) (u : Value) : Tu S a (w.setCell p u) :=
  ⟨h.os, h.tape, h.output, Nat.le_trans h.size (by simp [World.setCell]), fun k hk hs => (Below.heap_setCell _ _ _ _ (fun e => by subst e; rcases hp with x | x; exact hs x; omega)).trans (h.block k hk hs)⟩
theorem cell {S : List Nat} {w w' : World} (h : Tu S w w') {p : Addr} {v : Value} (hc : w.cell? p = some v) (hs : p.block ∉ S) : w'.cell? p = some v :=
  (World.cell?_of_block (w := w) (h.block p.block (World.block_lt_of_cell? w _ hc) hs)).trans hc
theorem grown {S : List Nat} {a w w' : World} {row : Option Nat} (h : Tu S a w) (hg : w.grownBy w' row) (hr : ∀ k, row = some k → k ∈ S ∨ a.heap.size ≤ k) : Tu S a w' :=
  ⟨hg.os.trans h.os, hg.tape.trans h.tape, hg.output.trans h.output, Nat.le_trans h.size hg.size, fun k hk hs => (hg.block k (Nat.lt_of_lt_of_le hk h.size) (fun e => by rcases hr k e.symm with x | x; exact hs x; omega)).trans (h.block k hk hs)⟩
end Tu
/-- bytes in memory: what a slice value leads to -/
abbrev BytesAt (w : World) (A : Option Addr) (n : Nat) (xs : List Int) : Prop := Kd.C (Kd.int .u8) w A n xs
theorem BytesAt.tu {S : List Nat} {w w' : World} {A : Option Addr} {n : Nat} {xs : List Int} (h : BytesAt w A n xs) (ht : Tu S w w') (hs : ∀ a, A = some a → 0 < n → a.block ∉ S) : BytesAt w' A n xs := by
  have hr := Kd.reads_of_C (enc := Value.int .u8) (d := (0 : Int)) (h1 := fun _ => rfl) h
  refine Kd.C_of_reads (d := (0 : Int)) ⟨hr.1, hr.2.1, fun hn => ?_⟩
  obtain ⟨a, e, hc⟩ := hr.2.2 hn
  exact ⟨a, e, fun j hj => ht.cell (hc j hj) (by
    have := hs a e hn
    cases j with
    | zero => rwa [Addr.add_zero']
    | succ j => simpa [Addr.add_succ'] using this)⟩
theorem BytesAt.below {B : Nat} {w w' : World} {A : Option Addr} {n : Nat} {xs : List Int} (h : BytesAt w A n xs) (hb : Below w.heap.size w w') : BytesAt w' A n xs := Kd.C_below h hb
theorem BytesAt.len {w : World} {A : Option Addr} {n : Nat} {xs : List Int} (h : BytesAt w A n xs) : xs.length = n := by
  have hr := Kd.reads_of_C (enc := Value.int .u8) (d := (0 : Int)) (h1 := fun _ => rfl) h
  exact hr.1
/-! leaves -/
theorem need_yes (c : Int) (w : World) : Calls Try.prog 78 #[.bool true, .int .i64 c] w fun e w' => e = .returned (.tuple #[]) ∧ w = w' := by
  go_enter Try.func78, Try.ntmps78
  go_wp2
  go_end0
  exact ⟨rfl, rfl⟩
/-- what a reader gives up with -/
abbrev wrong (c : Int) : Ending := .panicked [{ v := .iface 124 (.agg #[.int .i64 c]), recovered := false }]
theorem need_no (c : Int) (w : World) : Calls Try.prog 78 #[.bool false, .int .i64 c] w fun e w' => e = wrong c ∧ w = w' := by
  go_enter Try.func78, Try.ntmps78
  go_wp2
  exact ⟨rfl, rfl, rfl⟩
theorem tenantOf_any (g : Nat) (w : World) : Calls Try.prog 41 #[.pointer (some ⟨g, 0, none⟩)] w fun e w' => e = .returned (.pointer (some ⟨g, 1, none⟩)) ∧ w = w' := by
  go_enter Try.func41, Try.ntmps41
  go_wp2
  go_ret
  exact ⟨rfl, rfl⟩
theorem nOf_any (g : Nat) (w : World) : Calls Try.prog 44 #[.pointer (some ⟨g, 0, none⟩)] w fun e w' => e = .returned (.pointer (some ⟨g, 2, none⟩)) ∧ w = w' := by
  go_enter Try.func44, Try.ntmps44
  go_wp2
  go_ret
  exact ⟨rfl, rfl⟩
theorem mOf_any (g : Nat) (w : World) : Calls Try.prog 49 #[.pointer (some ⟨g, 0, none⟩)] w fun e w' => e = .returned (.pointer (some ⟨g, 3, none⟩)) ∧ w = w' := by
  go_enter Try.func49, Try.ntmps49
  go_wp2
  go_ret
  exact ⟨rfl, rfl⟩
/-! blocks -/
abbrev Blk (w : World) (g : Nat) (cs : Array Value) (t : TypeId) : Prop := w.heap[g]? = some (.cells cs t (0, 0))
theorem Blk.tu {S : List Nat} {w w' : World} {g : Nat} {cs : Array Value} {t : TypeId} (h : Blk w g cs t) (ht : Tu S w w') (hs : g ∉ S) : Blk w' g cs t :=
  (ht.block g (by have := Array.getElem?_eq_some_iff.1 h; exact this.1) hs).trans h
theorem Blk.lt {w : World} {g : Nat} {cs : Array Value} {t : TypeId} (h : Blk w g cs t) : g < w.heap.size := (Array.getElem?_eq_some_iff.1 h).1
/-! the reader -/
abbrev adv (A : Option Addr) (c k : Nat) : Option Addr := if c = k then A else A.map (·.add k)
theorem rbytes_ok (g : Nat) (A : Option Addr) (n c k : Nat) (w : World) (h : Blk w g #[.slice A n c] 99) (hk : k ≤ n) (hc : n ≤ c) :
    Calls Try.prog 68 #[.pointer (some ⟨g, 0, none⟩), .int .i64 k] w fun e w' => e = .returned (.slice A k c) ∧ w.setCell ⟨g, 0, none⟩ (.slice (adv A c k) (n - k) (c - k)) = w' := by
  have h0 : w.cell? ⟨g, 0, none⟩ = some (.slice A n c) := by simp [World.cell?, h]
  have hf : w.frozen? ⟨g, 0, none⟩ = false := frozen_of_row _ _ _ _ _ h
  have e1 : decide ((k : Int) ≤ (n : Int)) = true := by simp; omega
  clear h
  unfold adv
  by_cases hck : c = k
  all_goals
    go_enter Try.func68, Try.ntmps68
    go_wp2_with (with_reducible refine (need_yes ..).mono ?_; rintro e w' ⟨rfl, rfl⟩)
    go_ret
    simp
theorem rbytes_no (g : Nat) (A : Option Addr) (n c : Nat) (k : Int) (w : World) (h : Blk w g #[.slice A n c] 99) (hk : (n : Int) < k) :
    Calls Try.prog 68 #[.pointer (some ⟨g, 0, none⟩), .int .i64 k] w fun e w' => e = wrong 121 ∧ w = w' := by
  have h0 : w.cell? ⟨g, 0, none⟩ = some (.slice A n c) := by simp [World.cell?, h]
  have e1 : decide ((k : Int) ≤ (n : Int)) = false := by simp; omega
  clear h
  go_enter Try.func68, Try.ntmps68
  go_wp2_with (with_reducible refine (need_no ..).mono ?_; rintro e w' ⟨rfl, rfl⟩)
  exact ⟨rfl, rfl, rfl⟩
/-- the number of bytes, the highest first -/
def be (xs : List Int) : Int := xs.foldl (fun n b => n * 256 + b) 0
abbrev u8s (xs : List Int) : Prop := ∀ x ∈ xs, 0 ≤ x ∧ x < 256
theorem be_step (xs : List Int) (k : Nat) (hk : k < xs.length) : be (xs.take (k + 1)) = be (xs.take k) * 256 + rd xs k := by
  unfold be
  rw [List.take_add_one, List.foldl_append]
  simp [rd, List.getElem?_eq_getElem hk]
theorem u8_rd {xs : List Int} (h : u8s xs) (k : Nat) : 0 ≤ rd xs k ∧ rd xs k < 256 := by
  unfold rd
  by_cases hk : k < xs.length
  · have : (k : Int).toNat = k := by omega
    rw [this, List.getD_eq_getElem?_getD, List.getElem?_eq_getElem hk]
    exact h _ (List.getElem_mem hk)
  · have : (k : Int).toNat = k := by omega
    rw [this, List.getD_eq_getElem?_getD, List.getElem?_eq_none (by omega)]
    simp
theorem be_lt {xs : List Int} (h : u8s xs) (k : Nat) : 0 ≤ be (xs.take k) ∧ be (xs.take k) < 256 ^ k := by
  induction k with
  | zero => simp [be]
  | succ k ih =>
    by_cases hk : k < xs.length
    · rw [be_step xs k hk]
      have := u8_rd h k
      have e : (256 : Int) ^ (k + 1) = 256 ^ k * 256 := by rw [Int.pow_succ]
      omega
    · have e : (256 : Int) ^ (k + 1) = 256 ^ k * 256 := by rw [Int.pow_succ]
      rw [List.take_of_length_le (by omega)] at ih ⊢
      omega
theorem pow4 (j : Nat) (h : j < 4) : (256 : Int) ^ j ≤ 256 ^ 3 := by
  have : j = 0 ∨ j = 1 ∨ j = 2 ∨ j = 3 := by omega
  rcases this with rfl | rfl | rfl | rfl <;> decide
theorem wraps_i64 (n : Int) (h₀ : 0 ≤ n) (h₁ : n < 2 ^ 62) : IntKind.i64.wrap n = n := by rw [IntKind.wrap_i64]; omega
theorem shl8_or (n b : Int) (h0 : 0 ≤ n) (h1 : n < 2 ^ 40) (b0 : 0 ≤ b) (b1 : b < 256) : bits .or .i64 (n * 256) b = n * 256 + b :=
  bits_join .i64 62 (by decide) wraps_i64 8 (n * 256) b (by omega) (by omega) (by omega) b0 (by omega) (by omega)
theorem BytesAt.at_ {w : World} {A : Option Addr} {n : Nat} {xs : List Int} (h : BytesAt w A n xs) (i : Nat) (hi : i < n) : ∃ ad, A = some ad ∧ w.cell? (ad.add i) = some (.int .u8 (rd xs i)) := by
  obtain ⟨ad, e, hc⟩ := Kd.at_int h (i : Int) (by omega) (by omega)
  exact ⟨ad, e, hc⟩
set_option maxHeartbeats 1000000 in
theorem rnumber_ok (g : Nat) (A : Option Addr) (n c k : Nat) (w : World) (xs : List Int) (h : Blk w g #[.slice A n c] 99) (hx : BytesAt w A n xs) (hu : u8s xs) (hg : ∀ a, A = some a → 0 < n → a.block ≠ g) (hk : k ≤ n) (hk4 : k ≤ 4) (hc : n ≤ c) :
    Calls Try.prog 45 #[.pointer (some ⟨g, 0, none⟩), .int .i64 k] w fun e w' => e = .returned (.int .i64 (be (xs.take k))) ∧ w.setCell ⟨g, 0, none⟩ (.slice (adv A c k) (n - k) (c - k)) = w' := by
  have hlen := hx.len
  go_enter Try.func45, Try.ntmps45
  go_wp2_with (with_reducible refine (rbytes_ok g A n c k w h hk hc).mono ?_; rintro e w' ⟨rfl, hw'⟩)
  have hx' : BytesAt w' A n xs := hx.tu (S := [g]) (by rw [← hw']; exact (Tu.refl _ _).setCell (.inl (by simp)) _) (by simpa using hg)
  go_loop [5, 12] (fun v i => ∃ j : Nat, j ≤ k ∧ i = .int .i64 j ∧ v = .int .i64 (be (xs.take j))) (fun _ i => k - (intOf i).toNat)
  case atStart => exact ⟨0, by omega, rfl, rfl⟩
  case round =>
    obtain ⟨j, hj, rfl, rfl⟩ := hrel
    by_cases hjk : j < k
    · obtain ⟨ad, rfl, hcell⟩ := hx'.at_ j (by omega)
      have e1 : decide ((j : Int) < (k : Int)) = true := by simp; omega
      have e2 := u8_rd hu j
      have e3 := be_lt hu j
      have e4 : (256 : Int) ^ j ≤ 256 ^ 3 := pow4 j (by omega)
      have e5 : wrap64 (be (xs.take j) * 256) = be (xs.take j) * 256 := by rw [IntWalk.wrap64_in] <;> omega
      have e6 : wrap64 (rd xs j) = rd xs j := by rw [IntWalk.wrap64_in] <;> omega
      go_wp2_with fail
      rw [shl8_or _ _ e3.1 (by omega) e2.1 e2.2, ← be_step xs j (by omega)]
      exact ⟨⟨j + 1, by omega, by go_num, rfl⟩, by simp [intOf]; omega⟩
    · have hjk' : j = k := by omega
      subst hjk'
      have e1 : decide ((j : Int) < (j : Int)) = false := by simp
      go_wp2_with fail
      go_ret
      exact ⟨rfl, rfl⟩
theorem rnumber_no (g : Nat) (A : Option Addr) (n c k : Nat) (w : World) (h : Blk w g #[.slice A n c] 99) (hk : n < k) :
    Calls Try.prog 45 #[.pointer (some ⟨g, 0, none⟩), .int .i64 k] w fun e w' => e = wrong 121 ∧ w = w' := by
  go_enter Try.func45, Try.ntmps45
  go_wp2_with (with_reducible refine (rbytes_no g A n c k w h (by omega)).mono ?_; rintro e w' ⟨rfl, rfl⟩)
  exact ⟨rfl, rfl, rfl⟩
end Go.Proofs.Ytpflenaoplblkaa.ProA
