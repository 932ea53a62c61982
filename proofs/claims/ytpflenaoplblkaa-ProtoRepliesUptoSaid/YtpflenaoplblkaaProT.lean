import Derived.Test.YtpflenaoplblkaaProS
namespace Go.Proofs.Ytpflenaoplblkaa.ProT
open Go.RowKit Go.Proofs.YtpflenaoplblkaaW.PrintWords Go.Proofs.YtpflenaoplblkaaW.PrintLast Go.Proofs.Ytpflenaoplblkaa.ProA Go.Proofs.Ytpflenaoplblkaa.ProB Go.Proofs.Ytpflenaoplblkaa.ProC Go.Proofs.Ytpflenaoplblkaa.ProI Go.Proofs.Ytpflenaoplblkaa.ProD Go.Proofs.Ytpflenaoplblkaa.ProE Go.Proofs.Ytpflenaoplblkaa.ProF Go.Proofs.Ytpflenaoplblkaa.ProG Go.Proofs.Ytpflenaoplblkaa.ProH Go.Proofs.Ytpflenaoplblkaa.ProJ Go.Proofs.Ytpflenaoplblkaa.ProK Go.Proofs.Ytpflenaoplblkaa.ProL Go.Proofs.Ytpflenaoplblkaa.ProM Go.Proofs.Ytpflenaoplblkaa.ProN Go.Proofs.Ytpflenaoplblkaa.ProO Go.Proofs.Ytpflenaoplblkaa.ProP Go.Proofs.Ytpflenaoplblkaa.ProQ Go.Proofs.Ytpflenaoplblkaa.ProR Go.Proofs.Ytpflenaoplblkaa.ProS
set_option linter.unusedVariables false
set_option linter.unusedSimpArgs false
def F5 : Flds := ⟨3, 0, 5, 0, ByteArray.empty, []⟩
theorem fedA : feedS msgTab ([] ++ [0, 0, 0, 3, 3, 0]) = ([], 0, [0, 0, 0, 3, 3, 0]) := by kernel_rfl
theorem fedB : feedS msgTab ([0, 0, 0, 3, 3, 0] ++ [5, 0, 0]) = ([F5], 0, [0, 0]) := by kernel_rfl
theorem fedC : feedS msgTab ([0, 0] ++ [0, 0]) = ([], 121, []) := by kernel_rfl
theorem bytes_lit (W : World) (ys : List Int) (hm : ys.length ≤ 1000000000) : BytesAt (W.alloc (.cells (encs (Value.int .u8) ys).toArray 5)) (some ⟨W.heap.size, 0, none⟩) ys.length ys := by
  have h : Own (W.alloc (.cells (encs (Value.int .u8) ys).toArray 5)) 0 (fun _ => True) (.slice (some ⟨W.heap.size, 0, none⟩) ys.length ys.length) ys :=
    ⟨fun _ _ => trivial, OwnRow.lit W 0 (ps := ys) (Kd.reps_scalar ys) (by omega) (by omega)⟩
  obtain ⟨A, c, hv, hc, hr⟩ := Kd.R_reads h
  injection hv with h1 h2 h3
  subst h1
  exact hr
/-- how Feed ends, told by parts -/
def FeedTo (w : World) (g : Nat) (wv : Value) (ms : List Flds) (code : Int) (rest : List Int) (e : Ending) (w' : World) : Prop :=
  ∃ (A1 : Option Addr) (c1 : Nat) (B2 : Option Addr) (c2 : Nat), e = .returned (.tuple #[.slice A1 ms.length c1, .int .i64 code]) ∧
    Kd.R k35 35 w' w.heap.size (fun k => some k ≠ (Value.slice B2 rest.length c2).ownBlock) (.slice A1 ms.length c1) (ms.map msgOf) ∧
    Blk w' g #[.slice B2 rest.length c2, .bool (code != 0)] 67 ∧ Own w' w.heap.size (fun _ => True) (.slice B2 rest.length c2) rest ∧ Tu (g :: wv.ownBlock.toList) w w'
theorem feed_to (w : World) (g base c : Nat) (wv : Value) (ws ys : List Int) (A : Option Addr) {ms : List Flds} {code : Int} {rest : List Int} (hr : feedS msgTab (ws ++ ys) = (ms, code, rest))
    (hd : Blk w g #[wv, .bool false] 67) (hw : Own w base (fun _ => True) wv ws) (hb : base ≤ w.heap.size) (hx : BytesAt w A ys.length ys) (hc : ys.length ≤ c) (huw : u8s ws) (hu : u8s ys) (hbig : ws.length + ys.length ≤ 1000000000) :
    Calls Try.prog 10 #[pt g, .slice A ys.length c] w (FeedTo w g wv ms code rest) := by
  have h := feed_ok w g base c wv ws ys A hd hw hb hx hc huw hu hbig
  rw [hr] at h
  refine h.mono ?_
  rintro e w' ⟨lv, wv', rfl, h1, h2, h3, h4⟩
  obtain ⟨A1, c1, rfl, _, _⟩ := Kd.R_reads h1
  obtain ⟨B2, c2, rfl, _, _⟩ := Kd.R_reads h3
  dsimp only at h1 h2 h3
  simp only [List.length_map] at h1
  exact ⟨A1, c1, B2, c2, by simp, h1, h2, h3, h4⟩
theorem tu_below {h base g : Nat} {W W' W0 : World} {wv : Value} {ok : Nat → Prop} {xs : List Int} (ht : Tu (g :: wv.ownBlock.toList) W W') (ho : Own W0 base ok wv xs) (hb : h ≤ base) (hg : h ≤ g) (hW : h ≤ W.heap.size) : Below h W W' :=
  ht.below hW (fun k hk => by
    simp only [List.mem_cons, Option.mem_toList] at hk
    rcases hk with rfl | hk
    · exact hg
    · exact Nat.le_trans hb (Kd.R_base ho k hk))
theorem u8n : u8s [] := by intro x hx; cases hx
set_option maxHeartbeats 2000000 in
set_option maxRecDepth 100000 in
theorem fed_ok (w : World) : Calls Try.prog 8 #[] w fun e w' => e = .returned (.bool true) ∧ Below w.heap.size w w' := by
  go_enter Try.func8, Try.ntmps8
  go_wp2_with fail
  refine (new_ok w).mono ?_
  rintro e w1 ⟨rfl, hw1⟩
  have hd1 : Blk w1 w.heap.size #[.slice none 0 0, .bool false] 67 := by rw [← hw1]; exact blkNew rfl
  have hb1 : Below w.heap.size w w1 := by rw [← hw1]; exact ba _
  clear hw1
  have hs1 := hb1.size
  have HD1 := Lib.hid hd1
  have HB1 := Lib.hid hb1
  clear hd1 hb1
  go_wp2_with fail
  refine (feed_to (w1.alloc (.cells (encs (Value.int .u8) [0, 0, 0, 3, 3, 0]).toArray 5)) w.heap.size 0 6 (.slice none 0 0) [] [0, 0, 0, 3, 3, 0] (some ⟨w1.heap.size, 0, none⟩) fedA (blkOld HD1.out) (Kd.R_nil _ _ _ _ _) (by omega) (bytes_lit w1 _ (by decide)) (by decide) u8n (by decide) (by decide)).mono ?_
  rintro e w2 ⟨A1, c1, B2, c2, rfl, hr2, hd2, ho2, ht2⟩
  have hlt := Blk.lt HD1.out
  have hb2 : Below w.heap.size w w2 := (HB1.out.trans ((ba _).mono hs1)).trans (tu_below (h := w.heap.size) ht2 (Kd.R_nil (Kd.int .u8) 5 w2 w.heap.size (fun _ => True)) (Nat.le_refl _) (Nat.le_refl _) (by simp; omega))
  have hd2' : Blk w2 w.heap.size #[.slice B2 6 c2, .bool false] 67 := hd2
  have ho2' : Own w2 w.heap.size (fun _ => True) (.slice B2 6 c2) [0, 0, 0, 3, 3, 0] := Kd.R_lower ho2 (by simp; omega)
  have hs2 := hb2.size
  have HB2 := Lib.hid hb2
  have HD2 := Lib.hid hd2'
  have HO2 := Lib.hid ho2'
  clear hr2 hd2 ho2 ht2 hb2 hd2' ho2' HD1 HB1 hs1
  go_wp2_with fail
  refine (feed_to (w2.alloc (.cells (encs (Value.int .u8) [5, 0, 0]).toArray 5)) w.heap.size w.heap.size 3 (.slice B2 6 c2) [0, 0, 0, 3, 3, 0] [5, 0, 0] (some ⟨w2.heap.size, 0, none⟩) fedB (blkOld HD2.out) (Kd.R_below HO2.out (ba _)) (by simp; omega) (bytes_lit w2 _ (by decide)) (by decide) (by decide) (by decide) (by decide)).mono ?_
  rintro e w3 ⟨A3, c3, B3, c3', rfl, hr3, hd3, ho3, ht3⟩
  have hb3 : Below w.heap.size w w3 := (HB2.out.trans ((ba _).mono hs2)).trans (tu_below (h := w.heap.size) ht3 HO2.out (Nat.le_refl _) (Nat.le_refl _) (by simp; omega))
  have hd3' : Blk w3 w.heap.size #[.slice B3 2 c3', .bool false] 67 := hd3
  have ho3' : Own w3 w.heap.size (fun _ => True) (.slice B3 2 c3') [0, 0] := Kd.R_lower ho3 (by simp; omega)
  obtain ⟨A3', c3'', hv3, _, hc3⟩ := Kd.R_reads hr3
  injection hv3 with hv3 _ _
  subst hv3
  obtain ⟨ad, A4, c4, rfl, k0, k1, k2, k3, k4, _⟩ := at_T35 hc3 0 (by omega) (by simp)
  have z : ad.add (Int.toNat 0 * 5) = ad := by rw [show Int.toNat 0 * 5 = 0 from rfl]; exact Addr.add_zero' ad
  rw [z] at k0 k3
  have k0' : w3.cell? ad = some (.int .i64 3) := k0
  have k3' : w3.cell? ⟨ad.block, ad.off + 3, none⟩ = some (.int .i64 5) := k3
  have hs3 := hb3.size
  have HB3 := Lib.hid hb3
  have HD3 := Lib.hid hd3'
  have HO3 := Lib.hid ho3'
  clear hr3 hd3 ho3 ht3 hb3 hd3' ho3' HD2 HB2 HO2 hs2 hc3 k1 k2 k4 k0 k3 z
  go_wp2_with fail
  refine (feed_to (w3.alloc (.cells (encs (Value.int .u8) [0, 0]).toArray 5)) w.heap.size w.heap.size 2 (.slice B3 2 c3') [0, 0] [0, 0] (some ⟨w3.heap.size, 0, none⟩) fedC (blkOld HD3.out) (Kd.R_below HO3.out (ba _)) (by simp; omega) (bytes_lit w3 _ (by decide)) (by decide) (by decide) (by decide) (by decide)).mono ?_
  rintro e w4 ⟨A5, c5, B5, c5', rfl, hr4, hd4, ho4, ht4⟩
  have hb4 : Below w.heap.size w w4 := (HB3.out.trans ((ba _).mono hs3)).trans (tu_below (h := w.heap.size) ht4 HO3.out (Nat.le_refl _) (Nat.le_refl _) (by simp; omega))
  have hd4' : Blk w4 w.heap.size #[.slice B5 0 c5', .bool true] 67 := hd4
  have HB4 := Lib.hid hb4
  have HD4 := Lib.hid hd4'
  clear hr4 hd4 ho4 ht4 hb4 hd4' HD3 HB3 HO3 hs3 k0' k3'
  go_wp2_with (first
    | (go_at_call 10; refine (feed_dead _ _ (.slice B5 0 c5') none 0 0 HD4.out).mono ?_; rintro e w5 ⟨rfl, rfl⟩)
    | (go_at_call 12; refine (poisoned_ok _ _ (.slice B5 0 c5') true HD4.out).mono ?_; rintro e w6 ⟨rfl, rfl⟩))
  go_ret
  exact ⟨rfl, HB4.out⟩
end Go.Proofs.Ytpflenaoplblkaa.ProT
