import Derived.Test.YtpflenaoplblkaaGAg
section
namespace Go.Proofs.Ytpflenaoplblkaa.PaB
open Go.RowKit YtpflenaoplblkaaW.PrintWords YtpflenaoplblkaaW.PrintLast ProA ProB ProC ProI ProD ProG ProJ ProK ProL ProM ProN ProO ProP ProQ ProR ProU ProZ ProBb PaA
open ProH (msgTab repTab ba)
set_option linter.unusedVariables false
set_option linter.unusedSimpArgs false
def kindOf : PS → Int | .num _ k _ _ => if k = 1 then 98 else if k = 2 then 119 else 108 | .name => 110 | .blob _ => 100
def fieldOf : PS → Int | .num .tn _ _ _ => 84 | .num .n _ _ _ => 78 | .num .m _ _ _ => 77 | .name => 65 | .blob _ => 68
def leastOf : PS → Int | .num _ _ lo _ => lo | .name => 1 | .blob _ => 0
def mostOf : PS → Int | .num _ _ _ hi => hi | .name => 16 | .blob hi => hi
def rp (p : PS) : PProtoAll.S129 := ⟨kindOf p, fieldOf p, leastOf p, mostOf p⟩
def pok : PS → Prop
 | .num _ k lo hi => (k = 1 ∨ k = 2 ∨ k = 4) ∧ 0 ≤ lo ∧ hi < 256 ^ k ∧ hi < 4294967296
 | .name => True
 | .blob hi => 0 ≤ hi ∧ hi < 4294967296
theorem msg_pok : ∀ ps ∈ msgTab, ∀ p ∈ ps, pok p := by simp [msgTab, pok]
theorem rep_pok : ∀ ps ∈ repTab, ∀ p ∈ ps, pok p := by simp [repTab, pok]
theorem message_f (k : Int) : PProtoAll.arcaderef12_message.f k = some (if 1 ≤ k ∧ k < (msgTab.length : Int) then ((msgTab.getD k.toNat []).map rp, true) else ([], false)) := by
 have hl : (msgTab.length : Int) = 8 := rfl
 rw [hl]
 by_cases h : 1 ≤ k ∧ k < 8
 ·
  rw [if_pos h]
  rcases (show k = 1 ∨ k = 2 ∨ k = 3 ∨ k = 4 ∨ k = 5 ∨ k = 6 ∨ k = 7 by omega) with rfl | rfl | rfl | rfl | rfl | rfl | rfl <;> rfl
 ·
  rw [if_neg h]
  unfold PProtoAll.arcaderef12_message.f
  rw [if_neg (by omega), if_neg (by omega), if_neg (by omega), if_neg (by omega), if_neg (by omega), if_neg (by omega), if_neg (by omega)]
theorem reply_f (k : Int) : PProtoAll.arcaderef12_reply.f 2 k = some (if 1 ≤ k ∧ k < (repTab.length : Int) then ((repTab.getD k.toNat []).map rp, true) else ([], false)) := by
  have hl : (repTab.length : Int) = 10 := rfl
  rw [hl]
  by_cases h : 1 ≤ k ∧ k < 10
  · rw [if_pos h]
    rcases (show k = 1 ∨ k = 2 ∨ k = 3 ∨ k = 4 ∨ k = 5 ∨ k = 6 ∨ k = 7 ∨ k = 8 ∨ k = 9 by omega) with rfl | rfl | rfl | rfl | rfl | rfl | rfl | rfl | rfl <;> rfl
  · rw [if_neg h]
    unfold PProtoAll.arcaderef12_reply.f
    have h6 : (k == 6) = false := by rw [beq_eq_false_iff_ne]; omega
    rw [if_neg (by omega), h6]
    unfold PProtoAll.arcaderef12_reply.j0
    simp only [Bool.false_eq_true, if_false]
    repeat (first | rw [if_neg (by omega)] | (have h8 : (k == 8) = false := by rw [beq_eq_false_iff_ne]; omega
                                              simp [h8]))
theorem size_ok (kd fd lo hi : Int) (k : Nat) (h : PProtoAll.arcaderef12_Part_size.f kd fd lo hi = some (k : Int)) (w : World) : Calls Try.prog 89 #[.agg #[.int .u8 kd, .int .u8 fd, .int .i64 lo, .int .i64 hi]] w fun e w' => e = .returned (.int .i64 (k : Int)) ∧ Below w.heap.size w w' :=
  PProtoAll.arcaderef12_Part_size.calls _ _ _ _ _ w h
theorem rname_ok (s : ByteArray) (hs : s.size ≤ 1000000000) (w : World) : Calls Try.prog 88 #[.string s] w fun e w' => e = .returned (.bool (okFrom s 0)) ∧ Drawn0 w w' :=
  PProtoAll.arcaderef12_isName.calls _ s _ w (isName_f s hs)
theorem digits_ok (n : Int) (k : Nat) (h0 : 0 ≤ n) (h1 : n < 4294967296) (hk : k ≤ 4) (w : World) : Calls Try.prog 83 #[.int .i64 n, .int .i64 (k : Int)] w fun e w' => ∃ v, e = .returned v ∧ Own w' w.heap.size (fun _ => True) v (beB n k) ∧ Below w.heap.size w w' :=
  PProtoAll.arcaderef12_digits.calls _ _ _ _ w (digits_f n k h0 h1 hk)
def PutPost (w : World) (b : Bool) (bs : List Int) (e : Ending) (w' : World) : Prop :=
  ∃ v, e = .returned (.tuple #[v, .bool b]) ∧ Below w.heap.size w w' ∧ (b = true → Own w' w.heap.size (fun _ => True) v bs)
set_option maxHeartbeats 1000000 in
set_option maxRecDepth 100000 in
theorem put_T (kd lo hi : Int) (k : Nat) (F : Flds) (A : Option Addr) (n c : Nat) (w : World) (hsz : PProtoAll.arcaderef12_Part_size.f kd 84 lo hi = some (k : Int)) (hk : k ≤ 4) (hlo : 0 ≤ lo) (hhi : hi < 4294967296) :
  Calls Try.prog 82 #[.agg #[.int .u8 kd, .int .u8 84, .int .i64 lo, .int .i64 hi], .agg #[.int .i64 F.kind, .int .i64 F.tn, .int .i64 F.n, .int .i64 F.m, .string F.name, .slice A n c]] w (PutPost w (decide (lo ≤ F.tn) && decide (F.tn ≤ hi)) (beB F.tn k)) := by
 have HSZ := Lib.hid hsz
 clear hsz
 by_cases h1 : F.tn < lo
 ·
  have d1 : decide (F.tn < lo) = true := by simp; omega
  have d2 : (decide (lo ≤ F.tn) && decide (F.tn ≤ hi)) = false := by simp; omega
  rw [d2]
  go_enter Try.func82, Try.ntmps82
  go_wp2_with fail
  go_ret2
  exact ⟨_, rfl, by go_grown, fun h => by cases h⟩
 ·
  have d1 : decide (F.tn < lo) = false := by simp; omega
  by_cases h2 : F.tn > hi
  ·
   have d3 : decide (F.tn > hi) = true := by simp; omega
   have d2 : (decide (lo ≤ F.tn) && decide (F.tn ≤ hi)) = false := by simp; omega
   rw [d2]
   go_enter Try.func82, Try.ntmps82
   go_wp2_with fail
   go_ret2
   exact ⟨_, rfl, by go_grown, fun h => by cases h⟩
  ·
   have d3 : decide (F.tn > hi) = false := by simp; omega
   have d2 : (decide (lo ≤ F.tn) && decide (F.tn ≤ hi)) = true := by simp; omega
   rw [d2]
   have hlen := beB_len F.tn k
   have HL := Lib.hid hlen
   clear hlen d2
   go_enter Try.func82, Try.ntmps82
   have hz : w.heap.size ≤ ((w.alloc (Obj.cells #[.int .u8 kd, .int .u8 84, .int .i64 lo, .int .i64 hi] 129)).alloc (Obj.cells #[.int .i64 F.kind, .int .i64 F.tn, .int .i64 F.n, .int .i64 F.m, .string F.name, .slice A n c] 118)).heap.size := by simp; omega
   go_wp2_with (first
    | (go_at_call 89; refine (size_ok _ _ _ _ k HSZ.out _).mono ?_; rintro e w2 ⟨rfl, hb2⟩; have HB2 := Lib.hid hb2; have hs2 := hb2.size; clear hb2)
    | (go_at_call 83; refine (digits_ok F.tn k (by omega) (by omega) hk _).mono ?_; rintro e w3 ⟨v3, rfl, ho3, hb3⟩; have HO3 := Lib.hid ho3; have HB3 := Lib.hid hb3; have hs3 := hb3.size; clear ho3 hb3)
    | (at_builtin; refine app_bytes (w0 := w) w.heap.size rfl (.tmp 58) (.tmp 59) rfl v3 (beB F.tn k) [] none 0 0 (fun _ => True) rfl rfl ?ho (c_nil _ _ _) (fun _ _ => trivial) ?hb ?hz ?hl ?_; (case ho => exact Kd.R_lower HO3.out (by simp at hs2 ⊢; omega)); (case hb => exact Below.trans (by go_grown) ((HB2.out.trans (HB3.out.mono hs2)).mono hz)); (case hz => simp at hs2; omega); (case hl => rw [HL.out]; omega); intro v4 w4 ho4 hb4 hg4 hat4; have HO4 := Lib.hid ho4; have HB4 := Lib.hid hb4; clear ho4 hb4 hg4 hat4))
   go_ret2
   exact ⟨_, rfl, HB4.out, fun _ => by have h := HO4.out; rw [List.append_nil] at h; exact h⟩
set_option maxHeartbeats 1000000 in
set_option maxRecDepth 100000 in
theorem put_N (kd lo hi : Int) (k : Nat) (F : Flds) (A : Option Addr) (n c : Nat) (w : World) (hsz : PProtoAll.arcaderef12_Part_size.f kd 78 lo hi = some (k : Int)) (hk : k ≤ 4) (hlo : 0 ≤ lo) (hhi : hi < 4294967296) :
  Calls Try.prog 82 #[.agg #[.int .u8 kd, .int .u8 78, .int .i64 lo, .int .i64 hi], .agg #[.int .i64 F.kind, .int .i64 F.tn, .int .i64 F.n, .int .i64 F.m, .string F.name, .slice A n c]] w (PutPost w (decide (lo ≤ F.n) && decide (F.n ≤ hi)) (beB F.n k)) := by
 have HSZ := Lib.hid hsz
 clear hsz
 by_cases h1 : F.n < lo
 ·
  have d1 : decide (F.n < lo) = true := by simp; omega
  have d2 : (decide (lo ≤ F.n) && decide (F.n ≤ hi)) = false := by simp; omega
  rw [d2]
  go_enter Try.func82, Try.ntmps82
  go_wp2_with fail
  go_ret2
  exact ⟨_, rfl, by go_grown, fun h => by cases h⟩
 ·
  have d1 : decide (F.n < lo) = false := by simp; omega
  by_cases h2 : F.n > hi
  ·
   have d3 : decide (F.n > hi) = true := by simp; omega
   have d2 : (decide (lo ≤ F.n) && decide (F.n ≤ hi)) = false := by simp; omega
   rw [d2]
   go_enter Try.func82, Try.ntmps82
   go_wp2_with fail
   go_ret2
   exact ⟨_, rfl, by go_grown, fun h => by cases h⟩
  ·
   have d3 : decide (F.n > hi) = false := by simp; omega
   have d2 : (decide (lo ≤ F.n) && decide (F.n ≤ hi)) = true := by simp; omega
   rw [d2]
   have hlen := beB_len F.n k
   have HL := Lib.hid hlen
   clear hlen d2
   go_enter Try.func82, Try.ntmps82
   have hz : w.heap.size ≤ ((w.alloc (Obj.cells #[.int .u8 kd, .int .u8 78, .int .i64 lo, .int .i64 hi] 129)).alloc (Obj.cells #[.int .i64 F.kind, .int .i64 F.tn, .int .i64 F.n, .int .i64 F.m, .string F.name, .slice A n c] 118)).heap.size := by simp; omega
   go_wp2_with (first
    | (go_at_call 89; refine (size_ok _ _ _ _ k HSZ.out _).mono ?_; rintro e w2 ⟨rfl, hb2⟩; have HB2 := Lib.hid hb2; have hs2 := hb2.size; clear hb2)
    | (go_at_call 83; refine (digits_ok F.n k (by omega) (by omega) hk _).mono ?_; rintro e w3 ⟨v3, rfl, ho3, hb3⟩; have HO3 := Lib.hid ho3; have HB3 := Lib.hid hb3; have hs3 := hb3.size; clear ho3 hb3)
    | (at_builtin; refine app_bytes (w0 := w) w.heap.size rfl (.tmp 58) (.tmp 59) rfl v3 (beB F.n k) [] none 0 0 (fun _ => True) rfl rfl ?ho (c_nil _ _ _) (fun _ _ => trivial) ?hb ?hz ?hl ?_; (case ho => exact Kd.R_lower HO3.out (by simp at hs2 ⊢; omega)); (case hb => exact Below.trans (by go_grown) ((HB2.out.trans (HB3.out.mono hs2)).mono hz)); (case hz => simp at hs2; omega); (case hl => rw [HL.out]; omega); intro v4 w4 ho4 hb4 hg4 hat4; have HO4 := Lib.hid ho4; have HB4 := Lib.hid hb4; clear ho4 hb4 hg4 hat4))
   go_ret2
   exact ⟨_, rfl, HB4.out, fun _ => by have h := HO4.out; rw [List.append_nil] at h; exact h⟩
set_option maxHeartbeats 1000000 in
set_option maxRecDepth 100000 in
theorem put_M (kd lo hi : Int) (k : Nat) (F : Flds) (A : Option Addr) (n c : Nat) (w : World) (hsz : PProtoAll.arcaderef12_Part_size.f kd 77 lo hi = some (k : Int)) (hk : k ≤ 4) (hlo : 0 ≤ lo) (hhi : hi < 4294967296) :
  Calls Try.prog 82 #[.agg #[.int .u8 kd, .int .u8 77, .int .i64 lo, .int .i64 hi], .agg #[.int .i64 F.kind, .int .i64 F.tn, .int .i64 F.n, .int .i64 F.m, .string F.name, .slice A n c]] w (PutPost w (decide (lo ≤ F.m) && decide (F.m ≤ hi)) (beB F.m k)) := by
 have HSZ := Lib.hid hsz
 clear hsz
 by_cases h1 : F.m < lo
 ·
  have d1 : decide (F.m < lo) = true := by simp; omega
  have d2 : (decide (lo ≤ F.m) && decide (F.m ≤ hi)) = false := by simp; omega
  rw [d2]
  go_enter Try.func82, Try.ntmps82
  go_wp2_with fail
  go_ret2
  exact ⟨_, rfl, by go_grown, fun h => by cases h⟩
 ·
  have d1 : decide (F.m < lo) = false := by simp; omega
  by_cases h2 : F.m > hi
  ·
   have d3 : decide (F.m > hi) = true := by simp; omega
   have d2 : (decide (lo ≤ F.m) && decide (F.m ≤ hi)) = false := by simp; omega
   rw [d2]
   go_enter Try.func82, Try.ntmps82
   go_wp2_with fail
   go_ret2
   exact ⟨_, rfl, by go_grown, fun h => by cases h⟩
  ·
   have d3 : decide (F.m > hi) = false := by simp; omega
   have d2 : (decide (lo ≤ F.m) && decide (F.m ≤ hi)) = true := by simp; omega
   rw [d2]
   have hlen := beB_len F.m k
   have HL := Lib.hid hlen
   clear hlen d2
   go_enter Try.func82, Try.ntmps82
   have hz : w.heap.size ≤ ((w.alloc (Obj.cells #[.int .u8 kd, .int .u8 77, .int .i64 lo, .int .i64 hi] 129)).alloc (Obj.cells #[.int .i64 F.kind, .int .i64 F.tn, .int .i64 F.n, .int .i64 F.m, .string F.name, .slice A n c] 118)).heap.size := by simp; omega
   go_wp2_with (first
    | (go_at_call 89; refine (size_ok _ _ _ _ k HSZ.out _).mono ?_; rintro e w2 ⟨rfl, hb2⟩; have HB2 := Lib.hid hb2; have hs2 := hb2.size; clear hb2)
    | (go_at_call 83; refine (digits_ok F.m k (by omega) (by omega) hk _).mono ?_; rintro e w3 ⟨v3, rfl, ho3, hb3⟩; have HO3 := Lib.hid ho3; have HB3 := Lib.hid hb3; have hs3 := hb3.size; clear ho3 hb3)
    | (at_builtin; refine app_bytes (w0 := w) w.heap.size rfl (.tmp 58) (.tmp 59) rfl v3 (beB F.m k) [] none 0 0 (fun _ => True) rfl rfl ?ho (c_nil _ _ _) (fun _ _ => trivial) ?hb ?hz ?hl ?_; (case ho => exact Kd.R_lower HO3.out (by simp at hs2 ⊢; omega)); (case hb => exact Below.trans (by go_grown) ((HB2.out.trans (HB3.out.mono hs2)).mono hz)); (case hz => simp at hs2; omega); (case hl => rw [HL.out]; omega); intro v4 w4 ho4 hb4 hg4 hat4; have HO4 := Lib.hid ho4; have HB4 := Lib.hid hb4; clear ho4 hb4 hg4 hat4))
   go_ret2
   exact ⟨_, rfl, HB4.out, fun _ => by have h := HO4.out; rw [List.append_nil] at h; exact h⟩
theorem bdrew (B : Nat) (a : World) (n : Nat) : Below B a (a.drewN n) := ⟨rfl, rfl, rfl, Nat.le_refl _, fun _ _ => rfl⟩
theorem two_below (w : World) (a b : Obj) (n : Nat) : Below w.heap.size w (((w.alloc a).alloc b).drewN n) := ((ba _).trans ((ba _).mono (by simp))).trans (bdrew _ _ _)
set_option maxRecDepth 100000 in
theorem boxes (w : World) (a b : Array Value) (n : Nat) (s : ByteArray) : Blk (Lib.bytesWorld (((w.alloc (.cells a 129)).alloc (.cells b 118)).drewN n) 5 s) w.heap.size a 129 ∧ Blk (Lib.bytesWorld (((w.alloc (.cells a 129)).alloc (.cells b 118)).drewN n) 5 s) (w.heap.size + 1) b 118 ∧ Below w.heap.size w (Lib.bytesWorld (((w.alloc (.cells a 129)).alloc (.cells b 118)).drewN n) 5 s) ∧
  BytesAt (Lib.bytesWorld (((w.alloc (.cells a 129)).alloc (.cells b 118)).drewN n) 5 s) (some ⟨w.heap.size + 2, 0, none⟩) (bytesOf s).length (bytesOf s) ∨ 9223372036854775807 < s.size := by
 by_cases h : s.size ≤ 9223372036854775807
 ·
  left
  have hb : Below ((w.alloc (.cells a 129)).alloc (.cells b 118)).heap.size ((w.alloc (.cells a 129)).alloc (.cells b 118)) (Lib.bytesWorld (((w.alloc (.cells a 129)).alloc (.cells b 118)).drewN n) 5 s) := bytes_below (bdrew _ _ n) (by simp) 5 s
  refine ⟨Blk.below (Blk.below (blkNew rfl) (ba _)) hb, Blk.below (blkNew (by simp)) hb, Below.trans (by go_grown) (hb.mono (by simp; omega)), BytesAt.of ?_⟩
  have hr := bytes_reads (((w.alloc (.cells a 129)).alloc (.cells b 118)).drewN n) 5 s h
  have hz : (((w.alloc (.cells a 129)).alloc (.cells b 118)).drewN n).heap.size = w.heap.size + 2 := by simp
  rw [hz] at hr
  rw [bytesOf_length]
  exact hr
 · right; omega
set_option maxHeartbeats 1000000 in
set_option maxRecDepth 100000 in
theorem put_A (F : Flds) (A : Option Addr) (n c : Nat) (w : World) (hs : F.name.size ≤ 1000000000) :
  Calls Try.prog 82 #[.agg #[.int .u8 110, .int .u8 65, .int .i64 1, .int .i64 16], .agg #[.int .i64 F.kind, .int .i64 F.tn, .int .i64 F.n, .int .i64 F.m, .string F.name, .slice A n c]] w (PutPost w (nameOk F.name) (beB (F.name.size : Int) 1 ++ bytesOf F.name)) := by
 rw [nameOk_eq]
 by_cases hok : okFrom F.name 0 = true
 ·
  have HOK := Lib.hid hok
  rw [hok, Bool.true_and]
  clear hok
  have kb := fun W => print_bytes (P := Try.prog) 9 22 5 Try.underlying9 Try.underlying22 Try.underlying5 F.name W
  by_cases h1 : F.name.size < 1
  ·
   have d1 : decide ((F.name.size : Int) < 1) = true := by simp; omega
   have d2 : (decide (1 ≤ F.name.size) && decide (F.name.size ≤ 16)) = false := by simp; omega
   rw [d2]
   clear d2
   go_enter Try.func82, Try.ntmps82
   go_upto_region 19 with (first
    | (go_at_call 88; refine (rname_ok F.name hs _).mono ?_; rw [HOK.out]; rintro e w2 ⟨rfl, hd2⟩; obtain ⟨n2, rfl⟩ := hd2))
   rcases boxes w #[.int .u8 110, .int .u8 65, .int .i64 1, .int .i64 16] #[.int .i64 F.kind, .int .i64 F.tn, .int .i64 F.n, .int .i64 F.m, .string F.name, .slice A n c] n2 F.name with ⟨b1, b2, b3, b4⟩ | b5
   ·
    generalize Lib.bytesWorld _ 5 F.name = W2 at b1 b2 b3 b4 ⊢
    have HB3 := Lib.hid b3
    have k2 := Blk.cell (i := 2) b1 rfl
    have k3 := Blk.cell (i := 3) b1 rfl
    clear b1 b2 b3 b4 kb
    go_wp2_with fail
    go_ret2
    exact ⟨_, rfl, HB3.out, fun h => by cases h⟩
   · omega
  ·
   have d1 : decide ((F.name.size : Int) < 1) = false := by simp; omega
   by_cases h2 : F.name.size > 16
   ·
    have d3 : decide ((F.name.size : Int) > 16) = true := by simp; omega
    have d2 : (decide (1 ≤ F.name.size) && decide (F.name.size ≤ 16)) = false := by simp; omega
    rw [d2]
    clear d2
    go_enter Try.func82, Try.ntmps82
    go_upto_region 19 with (first
     | (go_at_call 88; refine (rname_ok F.name hs _).mono ?_; rw [HOK.out]; rintro e w2 ⟨rfl, hd2⟩; obtain ⟨n2, rfl⟩ := hd2))
    rcases boxes w #[.int .u8 110, .int .u8 65, .int .i64 1, .int .i64 16] #[.int .i64 F.kind, .int .i64 F.tn, .int .i64 F.n, .int .i64 F.m, .string F.name, .slice A n c] n2 F.name with ⟨b1, b2, b3, b4⟩ | b5
    ·
     generalize Lib.bytesWorld _ 5 F.name = W2 at b1 b2 b3 b4 ⊢
     have HB3 := Lib.hid b3
     have k2 := Blk.cell (i := 2) b1 rfl
     have k3 := Blk.cell (i := 3) b1 rfl
     clear b1 b2 b3 b4 kb
     go_wp2_with fail
     go_ret2
     exact ⟨_, rfl, HB3.out, fun h => by cases h⟩
    · omega
   ·
    have d3 : decide ((F.name.size : Int) > 16) = false := by simp; omega
    have d2 : (decide (1 ≤ F.name.size) && decide (F.name.size ≤ 16)) = true := by simp; omega
    rw [d2]
    clear d2
    have hlen := beB_len (F.name.size : Int) 1
    have HL := Lib.hid hlen
    clear hlen
    have h16 : F.name.size ≤ 16 := by omega
    have HSZ : Hid (PProtoAll.arcaderef12_Part_size.f 110 65 1 16 = some ((1 : Nat) : Int)) := Lib.hid rfl
    have HBL := Lib.hid (bytesOf_length F.name)
    go_enter Try.func82, Try.ntmps82
    go_upto_region 19 with (first
     | (go_at_call 88; refine (rname_ok F.name hs _).mono ?_; rw [HOK.out]; rintro e w2 ⟨rfl, hd2⟩; obtain ⟨n2, rfl⟩ := hd2))
    rcases boxes w #[.int .u8 110, .int .u8 65, .int .i64 1, .int .i64 16] #[.int .i64 F.kind, .int .i64 F.tn, .int .i64 F.n, .int .i64 F.m, .string F.name, .slice A n c] n2 F.name with ⟨b1, b2, b3, b4⟩ | b5
    ·
     rw [bytesOf_length] at b4
     generalize Lib.bytesWorld _ 5 F.name = W2 at b1 b2 b3 b4 ⊢
     have HB3 := Lib.hid b3
     have hs0 := b3.size
     have k0 := Blk.cell (i := 0) b1 rfl
     have k1 := Blk.cell (i := 1) b1 rfl
     have k2 := Blk.cell (i := 2) b1 rfl
     have k3 := Blk.cell (i := 3) b1 rfl
     have HB4 := Lib.hid b4
     clear b1 b2 b3 b4 kb
     go_wp2_with (first
      | (go_at_call 89; refine (size_ok _ _ _ _ 1 HSZ.out _).mono ?_; rintro e w3 ⟨rfl, hb3⟩; have HBB := Lib.hid hb3; have hs2 := hb3.size; clear hb3)
      | (go_at_call 83; refine (digits_ok (F.name.size : Int) 1 (by omega) (by omega) (by omega) _).mono ?_; rintro e w4 ⟨v3, rfl, ho3, hb3⟩; have HO3 := Lib.hid ho3; have HBC := Lib.hid hb3; have hs3 := hb3.size; clear ho3 hb3)
      | (at_builtin; refine app_bytes (w0 := w) w.heap.size rfl (.tmp 58) (.tmp 59) rfl v3 (beB (F.name.size : Int) 1) (bytesOf F.name) _ F.name.size _ (fun _ => True) rfl rfl ?ho ?hr (fun _ _ => trivial) ?hb ?hz ?hl ?_; (case ho => exact Kd.R_lower HO3.out (by omega)); (case hr => exact BytesAt.below (B := 0) (BytesAt.below (B := 0) HB4.out HBB.out) HBC.out); (case hb => exact HB3.out.trans ((HBB.out.trans (HBC.out.mono hs2)).mono hs0)); (case hz => omega); (case hl => rw [HL.out]; omega); intro v5 w5 ho5 hb5 hg5 hat5; have HO5 := Lib.hid ho5; have HB5 := Lib.hid hb5; clear ho5 hb5 hg5 hat5))
     go_ret2
     exact ⟨_, rfl, HB5.out, fun _ => HO5.out⟩
    · omega
 ·
  simp only [Bool.not_eq_true] at hok
  have HOK := Lib.hid hok
  rw [hok, Bool.false_and]
  clear hok
  go_enter Try.func82, Try.ntmps82
  go_wp2_with (first
   | (go_at_call 88; refine (rname_ok F.name hs _).mono ?_; rw [HOK.out]; rintro e w2 ⟨rfl, hd2⟩; obtain ⟨n2, rfl⟩ := hd2))
  go_ret2
  exact ⟨_, rfl, two_below _ _ _ _, fun h => by cases h⟩
set_option maxHeartbeats 1000000 in
set_option maxRecDepth 100000 in
theorem put_D (hi : Int) (F : Flds) (A : Option Addr) (c : Nat) (w : World) (h0 : 0 ≤ hi) (hhi : hi < 4294967296) (hx : BytesAt w A F.data.length F.data) (hd : F.data.length ≤ 1000000000) :
  Calls Try.prog 82 #[.agg #[.int .u8 100, .int .u8 68, .int .i64 0, .int .i64 hi], .agg #[.int .i64 F.kind, .int .i64 F.tn, .int .i64 F.n, .int .i64 F.m, .string F.name, .slice A F.data.length c]] w (PutPost w (decide ((F.data.length : Int) ≤ hi)) (beB (F.data.length : Int) 4 ++ F.data)) := by
 have HX := Lib.hid hx
 clear hx
 have d1 : decide ((F.data.length : Int) < 0) = false := by simp
 by_cases h2 : (F.data.length : Int) > hi
 ·
  have d3 : decide ((F.data.length : Int) > hi) = true := by simp; omega
  have d2 : decide ((F.data.length : Int) ≤ hi) = false := by simp; omega
  rw [d2]
  clear d2
  go_enter Try.func82, Try.ntmps82
  go_wp2_with fail
  go_ret2
  exact ⟨_, rfl, by go_grown, fun h => by cases h⟩
 ·
  have d3 : decide ((F.data.length : Int) > hi) = false := by simp; omega
  have d2 : decide ((F.data.length : Int) ≤ hi) = true := by simp; omega
  rw [d2]
  clear d2
  have hlen := beB_len (F.data.length : Int) 4
  have HL := Lib.hid hlen
  clear hlen
  have HSZ : Hid (PProtoAll.arcaderef12_Part_size.f 100 68 0 hi = some ((4 : Nat) : Int)) := Lib.hid rfl
  have hz : w.heap.size ≤ ((w.alloc (Obj.cells #[.int .u8 100, .int .u8 68, .int .i64 0, .int .i64 hi] 129)).alloc (Obj.cells #[.int .i64 F.kind, .int .i64 F.tn, .int .i64 F.n, .int .i64 F.m, .string F.name, .slice A F.data.length c] 118)).heap.size := by simp; omega
  have HW : Hid (Below w.heap.size w ((w.alloc (Obj.cells #[.int .u8 100, .int .u8 68, .int .i64 0, .int .i64 hi] 129)).alloc (Obj.cells #[.int .i64 F.kind, .int .i64 F.tn, .int .i64 F.n, .int .i64 F.m, .string F.name, .slice A F.data.length c] 118))) := Lib.hid (by go_grown)
  go_enter Try.func82, Try.ntmps82
  go_wp2_with (first
   | (go_at_call 89; refine (size_ok _ _ _ _ 4 HSZ.out _).mono ?_; rintro e w2 ⟨rfl, hb2⟩; have HB2 := Lib.hid hb2; have hs2 := hb2.size; clear hb2)
   | (go_at_call 83; refine (digits_ok (F.data.length : Int) 4 (by omega) (by omega) (by omega) _).mono ?_; rintro e w3 ⟨v3, rfl, ho3, hb3⟩; have HO3 := Lib.hid ho3; have HB3 := Lib.hid hb3; have hs3 := hb3.size; clear ho3 hb3)
   | (at_builtin; refine app_bytes (w0 := w) w.heap.size rfl (.tmp 58) (.tmp 59) rfl v3 (beB (F.data.length : Int) 4) F.data A F.data.length c (fun _ => True) rfl rfl ?ho ?hr (fun _ _ => trivial) ?hb ?hz ?hl ?_; (case ho => exact Kd.R_lower HO3.out (by simp at hs2 ⊢; omega)); (case hr => exact BytesAt.below (B := 0) HX.out (HW.out.trans ((HB2.out.trans (HB3.out.mono hs2)).mono hz))); (case hb => exact Below.trans HW.out ((HB2.out.trans (HB3.out.mono hs2)).mono hz)); (case hz => simp at hs2; omega); (case hl => rw [HL.out]; omega); intro v4 w4 ho4 hb4 hg4 hat4; have HO4 := Lib.hid ho4; have HB4 := Lib.hid hb4; clear ho4 hb4 hg4 hat4))
  go_ret2
  exact ⟨_, rfl, HB4.out, fun _ => HO4.out⟩
theorem put_ok (p : PS) (F : Flds) (A : Option Addr) (c : Nat) (w : World) (hp : pok p) (hx : BytesAt w A F.data.length F.data) (hd : F.data.length ≤ 1000000000) (hn : F.name.size ≤ 1000000000) :
  Calls Try.prog 82 #[.agg #[.int .u8 (rp p).f0, .int .u8 (rp p).f1, .int .i64 (rp p).f2, .int .i64 (rp p).f3], .agg #[.int .i64 F.kind, .int .i64 F.tn, .int .i64 F.n, .int .i64 F.m, .string F.name, .slice A F.data.length c]] w (PutPost w (fitsS p F) (wrS p F)) := by
 cases p with
 | num o k lo hi =>
  obtain ⟨hk, h0, _, h1⟩ := hp
  have hk4 : k ≤ 4 := by omega
  cases o with
  | tn => exact put_T _ lo hi k F A _ c w (by rcases hk with rfl | rfl | rfl <;> rfl) hk4 h0 h1
  | n => exact put_N _ lo hi k F A _ c w (by rcases hk with rfl | rfl | rfl <;> rfl) hk4 h0 h1
  | m => exact put_M _ lo hi k F A _ c w (by rcases hk with rfl | rfl | rfl <;> rfl) hk4 h0 h1
 | name => exact put_A F A _ c w hn
 | blob hi => exact put_D hi F A c w hp.1 hp.2 hx hd
end Go.Proofs.Ytpflenaoplblkaa.PaB
end
