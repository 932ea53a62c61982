import Derived.Laws.Cover3
import Derived.Test.YtpflenaoplblkaaGAm
import Derived.Test.YtpflenaoplblkaaGAb
section
namespace Go.Proofs.Ytpflenaoplblkaa.PaQ
open Go.RowKit YtpflenaoplblkaaW.PrintWords YtpflenaoplblkaaW.PrintLast ProA ProB ProC ProI ProD ProG ProJ ProK ProL ProM ProN ProO ProP ProQ ProR ProU ProZ ProBb PaA
open ProH (msgTab repTab ba)
open ProS PaI PaJ PaK PaL
open PaM PaN PaO PaP
set_option linter.unusedVariables false
set_option linter.unusedSimpArgs false
def dig (m k : Int) : Int := (PProtoAll.arcadelaw12_digit.f 4 m k).getD 0
theorem dig_f (m k : Int) (h : 0 ≤ k) : PProtoAll.arcadelaw12_digit.f 4 m k = some (dig m k) := by
 have h2 : Int.tmod k 3 = 0 ∨ Int.tmod k 3 = 1 ∨ Int.tmod k 3 = 2 := by
  rw [Int.tmod_eq_emod_of_nonneg h]
  omega
 unfold dig PProtoAll.arcadelaw12_digit.f
 rcases h2 with h2 | h2 | h2 <;> rw [h2] <;> simp [PProtoAll.arcadelaw12_digit.l0, wrap64]
theorem digit_ok (m k : Int) (w : World) (h : 0 ≤ k) : Calls Try.prog 38 #[.int .i64 m, .int .i64 k] w fun e w' => e = .returned (.int .u8 (dig m k)) ∧ Below w.heap.size w w' :=
  (PProtoAll.arcadelaw12_digit.calls 4 m k _ w (dig_f m k h)).mono (fun e w' h => ⟨h.1, h.2.below⟩)
theorem sc_at {α : Type} {enc : α → Value} {h1 : ∀ x, (enc x).oneCell' = true} {w : World} {A : Option Addr} {n : Nat} {xs : List α} (h : (Kd.scalar enc h1).C w A n xs) (j : Nat) (hj : j < n) (x : α) (hx : xs[j]? = some x) : ∃ ad, A = some ad ∧ w.cell? (ad.add j) = some (enc x) := by
 obtain ⟨ad, c, e, _, hK, hc0⟩ := Kd.C_get h x (j : Int) (by omega) (by omega)
 rw [Int.toNat_natCast, List.getD_eq_getElem?_getD, hx] at hK
 have hK' : c = [enc x] := hK
 subst hK'
 exact ⟨ad, e, by have := hc0 0 _ rfl; rw [Int.toNat_natCast, Nat.add_zero] at this; simpa [Kd.scalar] using this⟩
def nilS : Sl := ⟨none, 0, 0⟩
def mkM (m : Int) : MC := ⟨m, 0, ⟨#[]⟩, m, nilS⟩
def mkR (m : Int) : RC := ⟨m, m, 0, nilS⟩
structure Lk (h : Gh) : Prop where
 b : h.B.length = h.K0.length
 m : h.M.length = h.K1.length
 r : h.R.length = h.K2.length
 lb : ∀ (i : Nat) (p : Sl × List Int) (k : Int), h.B[i]? = some p → h.K0[i]? = some k → ∀ (t : Nat) (x : Int), p.2[t]? = some x → x = dig k t
 lm : ∀ (i : Nat) (p : Sl × List MC) (k : Int), h.M[i]? = some p → h.K1[i]? = some k → ∀ x ∈ p.2, x = mkM k
 lr : ∀ (i : Nat) (p : Sl × List RC) (k : Int), h.R[i]? = some p → h.K2[i]? = some k → ∀ x ∈ p.2, x = mkR k
 le : ∀ p ∈ h.E, ∀ x ∈ p.2, x = 251
theorem row_any {α : Type} {d : Kd α} {w : World} {own : Nat → Nat} {g i t e : Nat} {cs : Array Value} {f : Sl} {xs : List α} (hb : Blk w g cs 61) (hi : cs[i]? = some f.enc) (ho : Ow d e w own t f xs) : ∃ A c, xs.length ≤ c ∧ w.cell? ⟨g, i, none⟩ = some (.slice A xs.length c) ∧ d.C w A xs.length xs := by
 obtain ⟨h1, h2, h3⟩ := ow_len ho
 have := Blk.cell (i := i) hb hi
 exact ⟨f.A, f.c, by omega, by rw [h1]; exact this, by rw [h1]; exact h3⟩
set_option maxHeartbeats 4000000 in
set_option maxRecDepth 100000 in
theorem looks_ok (w : World) (g : Nat) (own : Nat → Nat) (s : St) (h : Gh) (H : WInv w g own s h) (hs : Lk h) (hm : Sm h) :
  Calls Try.prog 22 #[pt g] w fun e w' => e = .returned (.bool true) ∧ Below w.heap.size w w' := by
 have hB := hm.B
 have hMM := hm.M
 have hR := hm.R
 have hE := hm.E
 have HM := Lib.hid hm
 have HLK := Lib.hid hs
 have HW := Lib.hid H
 clear hm hs H
 go_enter Try.func22, Try.ntmps22
 go_wp2_with fail
 obtain ⟨A3, c3, hc3, k3, hl3⟩ := row_at (i := 7) HW.out.blk rfl HW.out.b.1
 rw [List.length_map] at hc3 k3 hl3
 have HC3 := Lib.hid hl3
 have HK3 := Lib.hid k3
 have HBe := Lib.hid (Below.refl w.heap.size w)
 clear hl3 k3
 obtain ⟨AK, cK, hcK, kK, hlK⟩ := row_any (i := 10) HW.out.blk rfl HW.out.k0
 rw [← HLK.out.b] at hcK kK hlK
 have HCK := Lib.hid hlK
 have HKK := Lib.hid kK
 clear hlK kK
 go_loopw [3, 4] (fun i k wr => ∃ (j : Nat), j ≤ h.B.length ∧ i = .int .i64 (j : Int) ∧ Hid (Below w.heap.size w wr)) (fun i _ _ => h.B.length - (intOf i).toNat)
 case atStart => exact ⟨0, by omega, rfl, HBe⟩
 case round =>
  clear HBe
  obtain ⟨j, hj, rfl, HBo⟩ := hrel
  have k3 := Kp.cellOf (own := own) HBo.out HK3.out
  by_cases hlt : j < h.B.length
  ·
   have dl : decide ((j : Int) < (h.B.length : Int)) = true := by simp; omega
   obtain ⟨p, hp⟩ : ∃ p, h.B[j]? = some p := ⟨h.B[j], List.getElem?_eq_getElem hlt⟩
   obtain ⟨a3, rfl, e1⟩ := sl_at HC3.out j hlt p.1 (by rw [List.getElem?_map, hp]; rfl)
   obtain ⟨hp1a, hp2, hp3⟩ := HW.out.b.2 p (List.mem_of_getElem? hp)
   have hp1 : p.2.length = p.1.n := Kd_C_len hp1a
   have hp3 := hp1a
   simp only [Sl.enc] at e1
   rw [← hp1] at e1 hp3 hp2
   have HP := Lib.hid hp3
   have HE1 := Lib.hid e1
   have hpx := HM.out.bx p (List.mem_of_getElem? hp)
   have HPP := Lib.hid hp
   generalize hB3 : p.1.A = B3 at HP HE1
   generalize hd3 : p.1.c = d3 at HE1 hp2
   clear e1 hp hp1 hp3 hB3 hd3
   have f3 := Kp.cellOf (own := own) HBo.out HE1.out
   go_wp2_with fail
   clear k3 f3
   go_loopw [4] (fun k wr => ∃ (t : Nat), t ≤ p.2.length ∧ k = .int .i64 (t : Int) ∧ Hid (Below w.heap.size w wr)) (fun k _ => p.2.length - (intOf k).toNat)
   case atStart => exact ⟨0, by omega, rfl, HBo⟩
   case round =>
    obtain ⟨t, ht, rfl, HBi⟩ := hrel
    have k3 := Kp.cellOf (own := own) HBi.out HK3.out
    have f3 := Kp.cellOf (own := own) HBi.out HE1.out
    by_cases htl : t < p.2.length
    ·
     have dt : decide ((t : Int) < (p.2.length : Int)) = true := by simp; omega
     obtain ⟨m, hm⟩ : ∃ m, h.K0[j]? = some m := ⟨h.K0[j]'(by rw [← HLK.out.b]; exact hlt), List.getElem?_eq_getElem _⟩
     obtain ⟨aK, rfl, eK⟩ := sc_at HCK.out j hlt m hm
     have kK := Kp.cellOf (own := own) HBi.out HKK.out
     have fK := Kp.cellOf (own := own) HBi.out eK
     obtain ⟨x, hx⟩ : ∃ x, p.2[t]? = some x := ⟨p.2[t], List.getElem?_eq_getElem htl⟩
     obtain ⟨b3, rfl, y0⟩ := sc_at (Kd.C_below HP.out HBi.out) t htl x hx
     obtain rfl := HLK.out.lb j p m HPP.out hm t x hx
     clear hx hm eK
     go_wp2_with fail
     refine start_ (n := 21) (S := fun w' => w'.cell? ⟨g, 7, none⟩ = some (.slice (some a3) h.B.length c3) ∧ w'.cell? (a3.add j) = some (.slice (some b3) p.2.length d3) ∧ w'.cell? (b3.add t) = some (.int .u8 (dig m t)) ∧ w'.cell? ⟨g, 10, none⟩ = some (.slice (some aK) h.B.length cK) ∧ w'.cell? (aK.add j) = some (.int .i64 m)) (ds := []) #[false, false, false, false, false, false, false, false, false, false, false, false, false, false, false, false, false, false, false, false, false] (by kernel_rfl) rfl rfl ⟨k3, f3, y0, kK, fK⟩ (fun hHeld => ?_)
     refine pu_ (i := 0) (N := some 34) (v := ?_) (a' := ?_) rfl rfl (by kernel_rfl) (fun _ _ _ h => h) (by rfl) ?_ ?_ ?_
     rotate_left
     · (intro w'; go_simp; with_reducible rfl)
     rotate_left
     · (simp only [put_s, List.set, i64_w, i32_w]; rfl)
     refine pu_ (i := 1) (N := some 35) (v := ?_) (a' := ?_) rfl rfl (by kernel_rfl) (fun _ _ _ h => h) (by rfl) ?_ ?_ ?_
     rotate_left
     · (intro w'; go_simp; with_reducible rfl)
     rotate_left
     · (simp only [put_s, List.set, i64_w, i32_w]; rfl)
     refine pu_ (i := 2) (N := some 36) (v := ?_) (a' := ?_) rfl rfl (by kernel_rfl) (fun _ _ _ h => h) (by rfl) ?_ ?_ ?_
     rotate_left
     · (intro w'; go_simp; with_reducible rfl)
     rotate_left
     · (simp only [put_s, List.set, i64_w, i32_w]; rfl)
     refine tk_ (i := 3) (N := some 37) (v := ?_) (a' := ?_) rfl rfl (by kernel_rfl) (fun _ _ _ h => h) (by rfl) ?_ hHeld ?_ ?_
     rotate_left
     · (intro w' s0; go_simp; with_reducible rfl)
     rotate_left
     · (simp only [put_s, List.set, i64_w, i32_w]; rfl)
     refine pu_ (i := 4) (N := some 38) (v := ?_) (a' := ?_) rfl rfl (by kernel_rfl) (fun _ _ _ h => h) (by rfl) ?_ ?_ ?_
     rotate_left
     · (intro w'; go_simp; with_reducible rfl)
     rotate_left
     · (simp only [put_s, List.set, i64_w, i32_w]; rfl)
     refine pu_ (i := 5) (N := some 39) (v := ?_) (a' := ?_) rfl rfl (by kernel_rfl) (fun _ _ _ h => h) (by rfl) ?_ ?_ ?_
     rotate_left
     · (intro w'; go_simp; with_reducible rfl)
     rotate_left
     · (simp only [put_s, List.set, i64_w, i32_w]; rfl)
     refine tk_ (i := 6) (N := some 40) (v := ?_) (a' := ?_) rfl rfl (by kernel_rfl) (fun _ _ _ h => h) (by rfl) ?_ hHeld ?_ ?_
     rotate_left
     · (intro w' s0; go_simp; with_reducible rfl)
     rotate_left
     · (simp only [put_s, List.set, i64_w, i32_w]; rfl)
     refine pu_ (i := 7) (N := some 41) (v := ?_) (a' := ?_) rfl rfl (by kernel_rfl) (fun _ _ _ h => h) (by rfl) ?_ ?_ ?_
     rotate_left
     · (intro w'; go_simp; with_reducible rfl)
     rotate_left
     · (simp only [put_s, List.set, i64_w, i32_w]; rfl)
     refine pu_ (i := 8) (N := some 42) (v := ?_) (a' := ?_) rfl rfl (by kernel_rfl) (fun _ _ _ h => h) (by rfl) ?_ ?_ ?_
     rotate_left
     · (intro w'; go_simp; with_reducible rfl)
     rotate_left
     · (simp only [put_s, List.set, i64_w, i32_w]; rfl)
     refine tk_ (i := 9) (N := some 43) (v := ?_) (a' := ?_) rfl rfl (by kernel_rfl) (fun _ _ _ h => h) (by rfl) ?_ hHeld ?_ ?_
     rotate_left
     · (intro w' s0; go_simp; with_reducible rfl)
     rotate_left
     · (simp only [put_s, List.set, i64_w, i32_w]; rfl)
     refine pu_ (i := 10) (N := some 44) (v := ?_) (a' := ?_) rfl rfl (by kernel_rfl) (fun _ _ _ h => h) (by rfl) ?_ ?_ ?_
     rotate_left
     · (intro w'; go_simp; with_reducible rfl)
     rotate_left
     · (simp only [put_s, List.set, i64_w, i32_w]; rfl)
     refine pu_ (i := 11) (N := some 45) (v := ?_) (a' := ?_) rfl rfl (by kernel_rfl) (fun _ _ _ h => h) (by rfl) ?_ ?_ ?_
     rotate_left
     · (intro w'; go_simp; with_reducible rfl)
     rotate_left
     · (simp only [put_s, List.set, i64_w, i32_w]; rfl)
     refine pu_ (i := 12) (N := some 46) (v := ?_) (a' := ?_) rfl rfl (by kernel_rfl) (fun _ _ _ h => h) (by rfl) ?_ ?_ ?_
     rotate_left
     · (intro w'; go_simp; with_reducible rfl)
     rotate_left
     · (simp only [put_s, List.set, i64_w, i32_w]; rfl)
     refine pu_ (i := 13) (N := some 47) (v := ?_) (a' := ?_) rfl rfl (by kernel_rfl) (fun _ _ _ h => h) (by rfl) ?_ ?_ ?_
     rotate_left
     · (intro w'; go_simp; with_reducible rfl)
     rotate_left
     · (simp only [put_s, List.set, i64_w, i32_w]; rfl)
     refine tk_ (i := 14) (N := some 48) (v := ?_) (a' := ?_) rfl rfl (by kernel_rfl) (fun _ _ _ h => h) (by rfl) ?_ hHeld ?_ ?_
     rotate_left
     · (intro w' s0; go_simp; with_reducible rfl)
     rotate_left
     · (simp only [put_s, List.set, i64_w, i32_w]; rfl)
     refine pu_ (i := 15) (N := some 49) (v := ?_) (a' := ?_) rfl rfl (by kernel_rfl) (fun _ _ _ h => h) (by rfl) ?_ ?_ ?_
     rotate_left
     · (intro w'; go_simp; with_reducible rfl)
     rotate_left
     · (simp only [put_s, List.set, i64_w, i32_w]; rfl)
     refine pu_ (i := 16) (N := some 50) (v := ?_) (a' := ?_) rfl rfl (by kernel_rfl) (fun _ _ _ h => h) (by rfl) ?_ ?_ ?_
     rotate_left
     · (intro w'; go_simp; with_reducible rfl)
     rotate_left
     · (simp only [put_s, List.set, i64_w, i32_w]; rfl)
     refine tk_ (i := 17) (N := some 51) (v := ?_) (a' := ?_) rfl rfl (by kernel_rfl) (fun _ _ _ h => h) (by rfl) ?_ hHeld ?_ ?_
     rotate_left
     · (intro w' s0; go_simp; with_reducible rfl)
     rotate_left
     · (simp only [put_s, List.set, i64_w, i32_w]; rfl)
     refine pu_ (i := 18) (N := some 52) (v := ?_) (a' := ?_) rfl rfl (by kernel_rfl) (fun _ _ _ h => h) (by rfl) ?_ ?_ ?_
     rotate_left
     · (intro w'; go_simp; with_reducible rfl)
     rotate_left
     · (simp only [put_s, List.set, i64_w, i32_w]; rfl)
     refine on_ (i := 19) (N := some 53) rfl rfl (by kernel_rfl) (by decide) (fun K hK => ?_)
     refine goes_ Try.func38 (by kernel_rfl) rfl #[.int .i64 m, .int .i64 (t : Int)] (by rfl) rfl rfl (by simp [Act.eval]) ?_
     refine Calls.mono (digit_ok m (t : Int) _ (by omega)) ?_
     rintro e w2 ⟨rfl, hb2⟩
     have HB2 := Lib.hid (HBi.out.drew.trans (hb2.mono (HBi.out.size)))
     refine ⟨_, rfl, ?_⟩
     refine hK.out _ _ ⟨Kp.cellOf (own := own) hb2 hHeld.1, Kp.cellOf (own := own) hb2 hHeld.2.1, Kp.cellOf (own := own) hb2 hHeld.2.2.1, Kp.cellOf (own := own) hb2 hHeld.2.2.2.1, Kp.cellOf (own := own) hb2 hHeld.2.2.2.2⟩ (fun hHeld => ?_)
     clear hK K hb2
     refine norm_ (a' := ?_) ?_ ?_
     rotate_left
     ·
      show Act.put _ (some 53) _ = _
      simp only [put_s, List.set, i64_w, i32_w]
      rfl
     refine pu_ (i := 20) (N := some 54) (v := ?_) (a' := ?_) rfl rfl (by kernel_rfl) (fun _ _ _ h => h) (by rfl) ?_ ?_ ?_
     rotate_left
     · (intro w'; go_simp; with_reducible rfl)
     rotate_left
     · (simp only [put_s, List.set, i64_w, i32_w]; rfl)
     refine done_ (by kernel_rfl) ?_
     go_wp2_with fail
     exact ⟨⟨t + 1, by omega, by go_num, HB2⟩, by simp [intOf]; omega⟩
    ·
     obtain rfl : t = p.2.length := by omega
     have dt : decide (((p.2.length : Nat) : Int) < (p.2.length : Int)) = false := by simp
     go_wp2_with fail
     exact ⟨⟨j + 1, by omega, by go_num, HBi⟩, by simp [intOf]; omega⟩
  ·
   obtain rfl : j = h.B.length := by omega
   have dl : decide (((h.B.length : Nat) : Int) < (h.B.length : Int)) = false := by simp
   go_wp2_with fail
   obtain ⟨A3, c3, hc3, k3, hl3⟩ := row_at (i := 8) HW.out.blk rfl HW.out.m.1
   rw [List.length_map] at hc3 k3 hl3
   have HC3 := Lib.hid hl3
   have HK3 := Lib.hid k3
   have HBe := Lib.hid HBo.out
   clear hl3 k3
   clear HCK HKK
   obtain ⟨AK, cK, hcK, kK, hlK⟩ := row_any (i := 11) HW.out.blk rfl HW.out.k1
   rw [← HLK.out.m] at hcK kK hlK
   have HCK := Lib.hid hlK
   have HKK := Lib.hid kK
   clear hlK kK
   go_loopw [5, 6, 7] (fun i k x wr => ∃ (j : Nat), j ≤ h.M.length ∧ i = .int .i64 (j : Int) ∧ Hid (Below w.heap.size w wr)) (fun i _ _ _ => h.M.length - (intOf i).toNat)
   case atStart => exact ⟨0, by omega, rfl, HBe⟩
   case round =>
    clear HBe
    obtain ⟨j, hj, rfl, HBo⟩ := hrel
    have k3 := Kp.cellOf (own := own) HBo.out HK3.out
    by_cases hlt : j < h.M.length
    ·
     have dl : decide ((j : Int) < (h.M.length : Int)) = true := by simp; omega
     obtain ⟨p, hp⟩ : ∃ p, h.M[j]? = some p := ⟨h.M[j], List.getElem?_eq_getElem hlt⟩
     obtain ⟨a3, rfl, e1⟩ := sl_at HC3.out j hlt p.1 (by rw [List.getElem?_map, hp]; rfl)
     obtain ⟨hp1a, hp2, hp3⟩ := HW.out.m.2 p (List.mem_of_getElem? hp)
     have hp1 : p.2.length = p.1.n := Kd_C_len hp1a
     have hp3 := hp1a
     simp only [Sl.enc] at e1
     rw [← hp1] at e1 hp3 hp2
     have HP := Lib.hid hp3
     have HE1 := Lib.hid e1
     have hpx := HM.out.mx p (List.mem_of_getElem? hp)
     have HPP := Lib.hid hp
     generalize hB3 : p.1.A = B3 at HP HE1
     generalize hd3 : p.1.c = d3 at HE1 hp2
     clear e1 hp hp1 hp3 hB3 hd3
     have f3 := Kp.cellOf (own := own) HBo.out HE1.out
     go_wp2_with fail
     clear k3 f3
     go_loopw [6, 7] (fun k x wr => ∃ (t : Nat), t ≤ p.2.length ∧ k = .int .i64 (t : Int) ∧ Hid (Below w.heap.size w wr)) (fun k _ _ => p.2.length - (intOf k).toNat)
     case atStart => exact ⟨0, by omega, rfl, HBo⟩
     case round =>
      obtain ⟨t, ht, rfl, HBi⟩ := hrel
      have k3 := Kp.cellOf (own := own) HBi.out HK3.out
      have f3 := Kp.cellOf (own := own) HBi.out HE1.out
      by_cases htl : t < p.2.length
      ·
       have dt : decide ((t : Int) < (p.2.length : Int)) = true := by simp; omega
       obtain ⟨m, hm⟩ : ∃ m, h.K1[j]? = some m := ⟨h.K1[j]'(by rw [← HLK.out.m]; exact hlt), List.getElem?_eq_getElem _⟩
       obtain ⟨aK, rfl, eK⟩ := sc_at HCK.out j hlt m hm
       have kK := Kp.cellOf (own := own) HBi.out HKK.out
       have fK := Kp.cellOf (own := own) HBi.out eK
       obtain ⟨x, hx⟩ : ∃ x, p.2[t]? = some x := ⟨p.2[t], List.getElem?_eq_getElem htl⟩
       obtain ⟨b3, rfl, x0, x1, x2, x3, x4⟩ := mc_at (Kd.C_below HP.out HBi.out) t htl x hx
       obtain rfl := HLK.out.lm j p m HPP.out hm x (List.mem_of_getElem? hx)
       simp only [mkM, nilS, Sl.enc] at x0  x1  x2  x3  x4
       have HKF := Lib.hid (And.intro kK fK)
       clear hx hm eK kK fK
       go_wp2_with (fail)
       have hbn : Blk (wr.alloc (.cells #[.int .i64 m, .int .i64 0, .string ⟨#[]⟩, .int .i64 m, .slice none 0 0] 35)) wr.heap.size #[.int .i64 m, .int .i64 0, .string ⟨#[]⟩, .int .i64 m, .slice none 0 0] 35 := blkNew rfl
       have n0 := Blk.cell (i := 0) hbn rfl
       have n3 := Blk.cell (i := 3) hbn rfl
       have n4 := Blk.cell (i := 4) hbn rfl
       have n2 := Blk.cell (i := 2) hbn rfl
       have kK := Kp.cellOf (own := own) (Below.alloc (Below.refl wr.heap.size wr) (Nat.le_refl _) (.cells #[.int .i64 m, .int .i64 0, .string ⟨#[]⟩, .int .i64 m, .slice none 0 0] 35)) HKF.out.1
       have fK := Kp.cellOf (own := own) (Below.alloc (Below.refl wr.heap.size wr) (Nat.le_refl _) (.cells #[.int .i64 m, .int .i64 0, .string ⟨#[]⟩, .int .i64 m, .slice none 0 0] 35)) HKF.out.2
       refine start_ (n := 35) (S := fun w' => w'.cell? ⟨wr.heap.size, 0, none⟩ = some (.int .i64 m) ∧ w'.cell? ⟨wr.heap.size, 3, none⟩ = some (.int .i64 m) ∧ w'.cell? ⟨wr.heap.size, 4, none⟩ = some (.slice none 0 0) ∧ w'.cell? ⟨wr.heap.size, 2, none⟩ = some (.string ⟨#[]⟩) ∧ w'.cell? ⟨g, 11, none⟩ = some (.slice (some aK) h.M.length cK) ∧ w'.cell? (aK.add j) = some (.int .i64 m)) (ds := []) #[false, false, false, false, false, false, false, false, false, false, false, false, false, false, false, false, false, false, false, false, false, false, false, false, false, false, false, false, false, false, false, false, false, false, false] (by kernel_rfl) rfl rfl ⟨n0, n3, n4, n2, kK, fK⟩ (fun hHeld => ?_)
       refine pu_ (i := 0) (N := some 86) (v := ?_) (a' := ?_) rfl rfl (by kernel_rfl) (fun _ _ _ h => h) (by rfl) ?_ ?_ ?_
       rotate_left
       · (intro w'; go_simp; with_reducible rfl)
       rotate_left
       · (simp only [put_s, List.set, i64_w, i32_w]; rfl)
       refine tk_ (i := 1) (N := some 87) (v := ?_) (a' := ?_) rfl rfl (by kernel_rfl) (fun _ _ _ h => h) (by rfl) ?_ hHeld ?_ ?_
       rotate_left
       · (intro w' s0; go_simp; with_reducible rfl)
       rotate_left
       · (simp only [put_s, List.set, i64_w, i32_w]; rfl)
       refine pu_ (i := 2) (N := some 88) (v := ?_) (a' := ?_) rfl rfl (by kernel_rfl) (fun _ _ _ h => h) (by rfl) ?_ ?_ ?_
       rotate_left
       · (intro w'; go_simp; with_reducible rfl)
       rotate_left
       · (simp only [put_s, List.set, i64_w, i32_w]; rfl)
       refine pu_ (i := 3) (N := some 89) (v := ?_) (a' := ?_) rfl rfl (by kernel_rfl) (fun _ _ _ h => h) (by rfl) ?_ ?_ ?_
       rotate_left
       · (intro w'; go_simp; with_reducible rfl)
       rotate_left
       · (simp only [put_s, List.set, i64_w, i32_w]; rfl)
       refine pu_ (i := 4) (N := some 90) (v := ?_) (a' := ?_) rfl rfl (by kernel_rfl) (fun _ _ _ h => h) (by rfl) ?_ ?_ ?_
       rotate_left
       · (intro w'; go_simp; with_reducible rfl)
       rotate_left
       · (simp only [put_s, List.set, i64_w, i32_w]; rfl)
       refine pu_ (i := 5) (N := some 91) (v := ?_) (a' := ?_) rfl rfl (by kernel_rfl) (fun _ _ _ h => h) (by rfl) ?_ ?_ ?_
       rotate_left
       · (intro w'; go_simp; with_reducible rfl)
       rotate_left
       · (simp only [put_s, List.set, i64_w, i32_w]; rfl)
       refine tk_ (i := 6) (N := some 92) (v := ?_) (a' := ?_) rfl rfl (by kernel_rfl) (fun _ _ _ h => h) (by rfl) ?_ hHeld ?_ ?_
       rotate_left
       · (intro w' s0; go_simp; with_reducible rfl)
       rotate_left
       · (simp only [put_s, List.set, i64_w, i32_w]; rfl)
       refine pu_ (i := 7) (N := some 93) (v := ?_) (a' := ?_) rfl rfl (by kernel_rfl) (fun _ _ _ h => h) (by rfl) ?_ ?_ ?_
       rotate_left
       · (intro w'; go_simp; with_reducible rfl)
       rotate_left
       · (simp only [put_s, List.set, i64_w, i32_w]; rfl)
       refine pu_ (i := 8) (N := some 94) (v := ?_) (a' := ?_) rfl rfl (by kernel_rfl) (fun _ _ _ h => h) (by rfl) ?_ ?_ ?_
       rotate_left
       · (intro w'; go_simp; with_reducible rfl)
       rotate_left
       · (simp only [put_s, List.set, i64_w, i32_w]; rfl)
       refine tk_ (i := 9) (N := some 95) (v := ?_) (a' := ?_) rfl rfl (by kernel_rfl) (fun _ _ _ h => h) (by rfl) ?_ hHeld ?_ ?_
       rotate_left
       · (intro w' s0; go_simp; with_reducible rfl)
       rotate_left
       · (simp only [put_s, List.set, i64_w, i32_w]; rfl)
       refine pu_ (i := 10) (N := some 96) (v := ?_) (a' := ?_) rfl rfl (by kernel_rfl) (fun _ _ _ h => h) (by rfl) ?_ ?_ ?_
       rotate_left
       · (intro w'; go_simp; with_reducible rfl)
       rotate_left
       · (simp only [put_s, List.set, i64_w, i32_w]; rfl)
       refine pu_ (i := 11) (N := some 97) (v := ?_) (a' := ?_) rfl rfl (by kernel_rfl) (fun _ _ _ h => h) (by rfl) ?_ ?_ ?_
       rotate_left
       · (intro w'; go_simp; with_reducible rfl)
       rotate_left
       · (simp only [put_s, List.set, i64_w, i32_w]; rfl)
       refine pu_ (i := 12) (N := some 98) (v := ?_) (a' := ?_) rfl rfl (by kernel_rfl) (fun _ _ _ h => h) (by rfl) ?_ ?_ ?_
       rotate_left
       · (intro w'; go_simp; with_reducible rfl)
       rotate_left
       · (simp only [put_s, List.set, i64_w, i32_w]; rfl)
       refine tk_ (i := 13) (N := some 99) (v := ?_) (a' := ?_) rfl rfl (by kernel_rfl) (fun _ _ _ h => h) (by rfl) ?_ hHeld ?_ ?_
       rotate_left
       · (intro w' s0; go_simp; with_reducible rfl)
       rotate_left
       · (simp only [put_s, List.set, i64_w, i32_w]; rfl)
       refine pu_ (i := 14) (N := some 100) (v := ?_) (a' := ?_) rfl rfl (by kernel_rfl) (fun _ _ _ h => h) (by rfl) ?_ ?_ ?_
       rotate_left
       · (intro w'; go_simp; with_reducible rfl)
       rotate_left
       · (simp only [put_s, List.set, i64_w, i32_w]; rfl)
       refine pu_ (i := 15) (N := some 101) (v := ?_) (a' := ?_) rfl rfl (by kernel_rfl) (fun _ _ _ h => h) (by rfl) ?_ ?_ ?_
       rotate_left
       · (intro w'; go_simp; with_reducible rfl)
       rotate_left
       · (simp only [put_s, List.set, i64_w, i32_w]; rfl)
       refine pu_ (i := 16) (N := some 102) (v := ?_) (a' := ?_) rfl rfl (by kernel_rfl) (fun _ _ _ h => h) (by rfl) ?_ ?_ ?_
       rotate_left
       · (intro w'; go_simp; with_reducible rfl)
       rotate_left
       · (simp only [put_s, List.set, i64_w, i32_w]; rfl)
       refine pu_ (i := 17) (N := some 103) (v := ?_) (a' := ?_) rfl rfl (by kernel_rfl) (fun _ _ _ h => h) (by rfl) ?_ ?_ ?_
       rotate_left
       · (intro w'; go_simp; with_reducible rfl)
       rotate_left
       · (simp only [put_s, List.set, i64_w, i32_w]; rfl)
       refine tk_ (i := 18) (N := some 104) (v := ?_) (a' := ?_) rfl rfl (by kernel_rfl) (fun _ _ _ h => h) (by rfl) ?_ hHeld ?_ ?_
       rotate_left
       · (intro w' s0; go_simp; with_reducible rfl)
       rotate_left
       · (simp only [put_s, List.set, i64_w, i32_w]; rfl)
       refine pu_ (i := 19) (N := some 105) (v := ?_) (a' := ?_) rfl rfl (by kernel_rfl) (fun _ _ _ h => h) (by rfl) ?_ ?_ ?_
       rotate_left
       · (intro w'; go_simp; with_reducible rfl)
       rotate_left
       · (simp only [put_s, List.set, i64_w, i32_w]; rfl)
       refine pu_ (i := 20) (N := some 106) (v := ?_) (a' := ?_) rfl rfl (by kernel_rfl) (fun _ _ _ h => h) (by rfl) ?_ ?_ ?_
       rotate_left
       · (intro w'; go_simp; with_reducible rfl)
       rotate_left
       · (simp only [put_s, List.set, i64_w, i32_w]; rfl)
       refine tk_ (i := 21) (N := some 107) (v := ?_) (a' := ?_) rfl rfl (by kernel_rfl) (fun _ _ _ h => h) (by rfl) ?_ hHeld ?_ ?_
       rotate_left
       · (intro w' s0; go_simp; with_reducible rfl)
       rotate_left
       · (simp only [put_s, List.set, i64_w, i32_w]; rfl)
       refine pu_ (i := 22) (N := some 108) (v := ?_) (a' := ?_) rfl rfl (by kernel_rfl) (fun _ _ _ h => h) (by rfl) ?_ ?_ ?_
       rotate_left
       · (intro w'; go_simp; with_reducible rfl)
       rotate_left
       · (simp only [put_s, List.set, i64_w, i32_w]; rfl)
       refine pu_ (i := 23) (N := some 109) (v := ?_) (a' := ?_) rfl rfl (by kernel_rfl) (fun _ _ _ h => h) (by rfl) ?_ ?_ ?_
       rotate_left
       · (intro w'; go_simp; with_reducible rfl)
       rotate_left
       · (simp only [put_s, List.set, i64_w, i32_w]; rfl)
       refine pu_ (i := 24) (N := some 110) (v := ?_) (a' := ?_) rfl rfl (by kernel_rfl) (fun _ _ _ h => h) (by rfl) ?_ ?_ ?_
       rotate_left
       · (intro w'; go_simp; with_reducible rfl)
       rotate_left
       · (simp only [put_s, List.set, i64_w, i32_w]; rfl)
       refine pu_ (i := 25) (N := some 111) (v := ?_) (a' := ?_) rfl rfl (by kernel_rfl) (fun _ _ _ h => h) (by rfl) ?_ ?_ ?_
       rotate_left
       · (intro w'; go_simp; with_reducible rfl)
       rotate_left
       · (simp only [put_s, List.set, i64_w, i32_w]; rfl)
       refine tk_ (i := 26) (N := some 112) (v := ?_) (a' := ?_) rfl rfl (by kernel_rfl) (fun _ _ _ h => h) (by rfl) ?_ hHeld ?_ ?_
       rotate_left
       · (intro w' s0; go_simp; with_reducible rfl)
       rotate_left
       · (simp only [put_s, List.set, i64_w, i32_w]; rfl)
       refine pu_ (i := 27) (N := some 113) (v := ?_) (a' := ?_) rfl rfl (by kernel_rfl) (fun _ _ _ h => h) (by rfl) ?_ ?_ ?_
       rotate_left
       · (intro w'; go_simp; with_reducible rfl)
       rotate_left
       · (simp only [put_s, List.set, i64_w, i32_w]; rfl)
       refine pu_ (i := 28) (N := some 114) (v := ?_) (a' := ?_) rfl rfl (by kernel_rfl) (fun _ _ _ h => h) (by rfl) ?_ ?_ ?_
       rotate_left
       · (intro w'; go_simp; with_reducible rfl)
       rotate_left
       · (simp only [put_s, List.set, i64_w, i32_w]; rfl)
       refine pu_ (i := 29) (N := some 115) (v := ?_) (a' := ?_) rfl rfl (by kernel_rfl) (fun _ _ _ h => h) (by rfl) ?_ ?_ ?_
       rotate_left
       · (intro w'; go_simp; with_reducible rfl)
       rotate_left
       · (simp only [put_s, List.set, i64_w, i32_w]; rfl)
       refine pu_ (i := 30) (N := some 116) (v := ?_) (a' := ?_) rfl rfl (by kernel_rfl) (fun _ _ _ h => h) (by rfl) ?_ ?_ ?_
       rotate_left
       · (intro w'; go_simp; with_reducible rfl)
       rotate_left
       · (simp only [put_s, List.set, i64_w, i32_w]; rfl)
       refine pu_ (i := 31) (N := some 117) (v := ?_) (a' := ?_) rfl rfl (by kernel_rfl) (fun _ _ _ h => h) (by rfl) ?_ ?_ ?_
       rotate_left
       · (intro w'; go_simp; with_reducible rfl)
       rotate_left
       · (simp only [put_s, List.set, i64_w, i32_w]; rfl)
       refine tk_ (i := 32) (N := some 118) (v := ?_) (a' := ?_) rfl rfl (by kernel_rfl) (fun _ _ _ h => h) (by rfl) ?_ hHeld ?_ ?_
       rotate_left
       · (intro w' s0; go_simp; with_reducible rfl)
       rotate_left
       · (simp only [put_s, List.set, i64_w, i32_w]; rfl)
       refine pu_ (i := 33) (N := some 119) (v := ?_) (a' := ?_) rfl rfl (by kernel_rfl) (fun _ _ _ h => h) (by rfl) ?_ ?_ ?_
       rotate_left
       · (intro w'; go_simp; with_reducible rfl)
       rotate_left
       · (simp only [put_s, List.set, i64_w, i32_w]; rfl)
       refine pu_ (i := 34) (N := some 120) (v := ?_) (a' := ?_) rfl rfl (by kernel_rfl) (fun _ _ _ h => h) (by rfl) ?_ ?_ ?_
       rotate_left
       · (intro w'; go_simp; with_reducible rfl)
       rotate_left
       · (simp only [put_s, List.set, i64_w, i32_w]; rfl)
       refine done_ (by kernel_rfl) ?_
       go_wp2_with fail
       exact ⟨⟨t + 1, by omega, by go_num, Lib.hid ((HBi.out.alloc HBi.out.size _).drew)⟩, by simp [intOf]; omega⟩
      ·
       obtain rfl : t = p.2.length := by omega
       have dt : decide (((p.2.length : Nat) : Int) < (p.2.length : Int)) = false := by simp
       go_wp2_with fail
       exact ⟨⟨j + 1, by omega, by go_num, HBi⟩, by simp [intOf]; omega⟩
    ·
     obtain rfl : j = h.M.length := by omega
     have dl : decide (((h.M.length : Nat) : Int) < (h.M.length : Int)) = false := by simp
     go_wp2_with fail
     obtain ⟨A3, c3, hc3, k3, hl3⟩ := row_at (i := 9) HW.out.blk rfl HW.out.r.1
     rw [List.length_map] at hc3 k3 hl3
     have HC3 := Lib.hid hl3
     have HK3 := Lib.hid k3
     have HBe := Lib.hid HBo.out
     clear hl3 k3
     clear HCK HKK
     obtain ⟨AK, cK, hcK, kK, hlK⟩ := row_any (i := 12) HW.out.blk rfl HW.out.k2
     rw [← HLK.out.r] at hcK kK hlK
     have HCK := Lib.hid hlK
     have HKK := Lib.hid kK
     clear hlK kK
     go_loopw [8, 9, 10] (fun i k x wr => ∃ (j : Nat), j ≤ h.R.length ∧ i = .int .i64 (j : Int) ∧ Hid (Below w.heap.size w wr)) (fun i _ _ _ => h.R.length - (intOf i).toNat)
     case atStart => exact ⟨0, by omega, rfl, HBe⟩
     case round =>
      clear HBe
      obtain ⟨j, hj, rfl, HBo⟩ := hrel
      have k3 := Kp.cellOf (own := own) HBo.out HK3.out
      by_cases hlt : j < h.R.length
      ·
       have dl : decide ((j : Int) < (h.R.length : Int)) = true := by simp; omega
       obtain ⟨p, hp⟩ : ∃ p, h.R[j]? = some p := ⟨h.R[j], List.getElem?_eq_getElem hlt⟩
       obtain ⟨a3, rfl, e1⟩ := sl_at HC3.out j hlt p.1 (by rw [List.getElem?_map, hp]; rfl)
       obtain ⟨hp1a, hp2, hp3⟩ := HW.out.r.2 p (List.mem_of_getElem? hp)
       have hp1 : p.2.length = p.1.n := Kd_C_len hp1a
       have hp3 := hp1a
       simp only [Sl.enc] at e1
       rw [← hp1] at e1 hp3 hp2
       have HP := Lib.hid hp3
       have HE1 := Lib.hid e1
       have hpx := HM.out.rx p (List.mem_of_getElem? hp)
       have HPP := Lib.hid hp
       generalize hB3 : p.1.A = B3 at HP HE1
       generalize hd3 : p.1.c = d3 at HE1 hp2
       clear e1 hp hp1 hp3 hB3 hd3
       have f3 := Kp.cellOf (own := own) HBo.out HE1.out
       go_wp2_with fail
       clear k3 f3
       go_loopw [9, 10] (fun k x wr => ∃ (t : Nat), t ≤ p.2.length ∧ k = .int .i64 (t : Int) ∧ Hid (Below w.heap.size w wr)) (fun k _ _ => p.2.length - (intOf k).toNat)
       case atStart => exact ⟨0, by omega, rfl, HBo⟩
       case round =>
        obtain ⟨t, ht, rfl, HBi⟩ := hrel
        have k3 := Kp.cellOf (own := own) HBi.out HK3.out
        have f3 := Kp.cellOf (own := own) HBi.out HE1.out
        by_cases htl : t < p.2.length
        ·
         have dt : decide ((t : Int) < (p.2.length : Int)) = true := by simp; omega
         obtain ⟨m, hm⟩ : ∃ m, h.K2[j]? = some m := ⟨h.K2[j]'(by rw [← HLK.out.r]; exact hlt), List.getElem?_eq_getElem _⟩
         obtain ⟨aK, rfl, eK⟩ := sc_at HCK.out j hlt m hm
         have kK := Kp.cellOf (own := own) HBi.out HKK.out
         have fK := Kp.cellOf (own := own) HBi.out eK
         obtain ⟨x, hx⟩ : ∃ x, p.2[t]? = some x := ⟨p.2[t], List.getElem?_eq_getElem htl⟩
         obtain ⟨b3, rfl, x0, x1, x2, x3⟩ := rc_at (Kd.C_below HP.out HBi.out) t htl x hx
         obtain rfl := HLK.out.lr j p m HPP.out hm x (List.mem_of_getElem? hx)
         simp only [mkR, nilS, Sl.enc] at x0  x1  x2  x3
         have HKF := Lib.hid (And.intro kK fK)
         clear hx hm eK kK fK
         go_wp2_with (fail)
         have hbn : Blk (wr.alloc (.cells #[.int .i64 m, .int .i64 m, .int .i64 0, .slice none 0 0] 44)) wr.heap.size #[.int .i64 m, .int .i64 m, .int .i64 0, .slice none 0 0] 44 := blkNew rfl
         have n0 := Blk.cell (i := 0) hbn rfl
         have n1 := Blk.cell (i := 1) hbn rfl
         have n3 := Blk.cell (i := 3) hbn rfl
         have n2 := Blk.cell (i := 2) hbn rfl
         have kK := Kp.cellOf (own := own) (Below.alloc (Below.refl wr.heap.size wr) (Nat.le_refl _) (.cells #[.int .i64 m, .int .i64 m, .int .i64 0, .slice none 0 0] 44)) HKF.out.1
         have fK := Kp.cellOf (own := own) (Below.alloc (Below.refl wr.heap.size wr) (Nat.le_refl _) (.cells #[.int .i64 m, .int .i64 m, .int .i64 0, .slice none 0 0] 44)) HKF.out.2
         refine start_ (n := 35) (S := fun w' => w'.cell? ⟨wr.heap.size, 0, none⟩ = some (.int .i64 m) ∧ w'.cell? ⟨wr.heap.size, 1, none⟩ = some (.int .i64 m) ∧ w'.cell? ⟨wr.heap.size, 3, none⟩ = some (.slice none 0 0) ∧ w'.cell? ⟨wr.heap.size, 2, none⟩ = some (.int .i64 0) ∧ w'.cell? ⟨g, 12, none⟩ = some (.slice (some aK) h.R.length cK) ∧ w'.cell? (aK.add j) = some (.int .i64 m)) (ds := []) #[false, false, false, false, false, false, false, false, false, false, false, false, false, false, false, false, false, false, false, false, false, false, false, false, false, false, false, false, false, false, false, false, false, false, false] (by kernel_rfl) rfl rfl ⟨n0, n1, n3, n2, kK, fK⟩ (fun hHeld => ?_)
         refine pu_ (i := 0) (N := some 152) (v := ?_) (a' := ?_) rfl rfl (by kernel_rfl) (fun _ _ _ h => h) (by rfl) ?_ ?_ ?_
         rotate_left
         · (intro w'; go_simp; with_reducible rfl)
         rotate_left
         · (simp only [put_s, List.set, i64_w, i32_w]; rfl)
         refine tk_ (i := 1) (N := some 153) (v := ?_) (a' := ?_) rfl rfl (by kernel_rfl) (fun _ _ _ h => h) (by rfl) ?_ hHeld ?_ ?_
         rotate_left
         · (intro w' s0; go_simp; with_reducible rfl)
         rotate_left
         · (simp only [put_s, List.set, i64_w, i32_w]; rfl)
         refine pu_ (i := 2) (N := some 154) (v := ?_) (a' := ?_) rfl rfl (by kernel_rfl) (fun _ _ _ h => h) (by rfl) ?_ ?_ ?_
         rotate_left
         · (intro w'; go_simp; with_reducible rfl)
         rotate_left
         · (simp only [put_s, List.set, i64_w, i32_w]; rfl)
         refine pu_ (i := 3) (N := some 155) (v := ?_) (a' := ?_) rfl rfl (by kernel_rfl) (fun _ _ _ h => h) (by rfl) ?_ ?_ ?_
         rotate_left
         · (intro w'; go_simp; with_reducible rfl)
         rotate_left
         · (simp only [put_s, List.set, i64_w, i32_w]; rfl)
         refine pu_ (i := 4) (N := some 156) (v := ?_) (a' := ?_) rfl rfl (by kernel_rfl) (fun _ _ _ h => h) (by rfl) ?_ ?_ ?_
         rotate_left
         · (intro w'; go_simp; with_reducible rfl)
         rotate_left
         · (simp only [put_s, List.set, i64_w, i32_w]; rfl)
         refine pu_ (i := 5) (N := some 157) (v := ?_) (a' := ?_) rfl rfl (by kernel_rfl) (fun _ _ _ h => h) (by rfl) ?_ ?_ ?_
         rotate_left
         · (intro w'; go_simp; with_reducible rfl)
         rotate_left
         · (simp only [put_s, List.set, i64_w, i32_w]; rfl)
         refine tk_ (i := 6) (N := some 158) (v := ?_) (a' := ?_) rfl rfl (by kernel_rfl) (fun _ _ _ h => h) (by rfl) ?_ hHeld ?_ ?_
         rotate_left
         · (intro w' s0; go_simp; with_reducible rfl)
         rotate_left
         · (simp only [put_s, List.set, i64_w, i32_w]; rfl)
         refine pu_ (i := 7) (N := some 159) (v := ?_) (a' := ?_) rfl rfl (by kernel_rfl) (fun _ _ _ h => h) (by rfl) ?_ ?_ ?_
         rotate_left
         · (intro w'; go_simp; with_reducible rfl)
         rotate_left
         · (simp only [put_s, List.set, i64_w, i32_w]; rfl)
         refine pu_ (i := 8) (N := some 160) (v := ?_) (a' := ?_) rfl rfl (by kernel_rfl) (fun _ _ _ h => h) (by rfl) ?_ ?_ ?_
         rotate_left
         · (intro w'; go_simp; with_reducible rfl)
         rotate_left
         · (simp only [put_s, List.set, i64_w, i32_w]; rfl)
         refine tk_ (i := 9) (N := some 161) (v := ?_) (a' := ?_) rfl rfl (by kernel_rfl) (fun _ _ _ h => h) (by rfl) ?_ hHeld ?_ ?_
         rotate_left
         · (intro w' s0; go_simp; with_reducible rfl)
         rotate_left
         · (simp only [put_s, List.set, i64_w, i32_w]; rfl)
         refine pu_ (i := 10) (N := some 162) (v := ?_) (a' := ?_) rfl rfl (by kernel_rfl) (fun _ _ _ h => h) (by rfl) ?_ ?_ ?_
         rotate_left
         · (intro w'; go_simp; with_reducible rfl)
         rotate_left
         · (simp only [put_s, List.set, i64_w, i32_w]; rfl)
         refine pu_ (i := 11) (N := some 163) (v := ?_) (a' := ?_) rfl rfl (by kernel_rfl) (fun _ _ _ h => h) (by rfl) ?_ ?_ ?_
         rotate_left
         · (intro w'; go_simp; with_reducible rfl)
         rotate_left
         · (simp only [put_s, List.set, i64_w, i32_w]; rfl)
         refine pu_ (i := 12) (N := some 164) (v := ?_) (a' := ?_) rfl rfl (by kernel_rfl) (fun _ _ _ h => h) (by rfl) ?_ ?_ ?_
         rotate_left
         · (intro w'; go_simp; with_reducible rfl)
         rotate_left
         · (simp only [put_s, List.set, i64_w, i32_w]; rfl)
         refine tk_ (i := 13) (N := some 165) (v := ?_) (a' := ?_) rfl rfl (by kernel_rfl) (fun _ _ _ h => h) (by rfl) ?_ hHeld ?_ ?_
         rotate_left
         · (intro w' s0; go_simp; with_reducible rfl)
         rotate_left
         · (simp only [put_s, List.set, i64_w, i32_w]; rfl)
         refine pu_ (i := 14) (N := some 166) (v := ?_) (a' := ?_) rfl rfl (by kernel_rfl) (fun _ _ _ h => h) (by rfl) ?_ ?_ ?_
         rotate_left
         · (intro w'; go_simp; with_reducible rfl)
         rotate_left
         · (simp only [put_s, List.set, i64_w, i32_w]; rfl)
         refine pu_ (i := 15) (N := some 167) (v := ?_) (a' := ?_) rfl rfl (by kernel_rfl) (fun _ _ _ h => h) (by rfl) ?_ ?_ ?_
         rotate_left
         · (intro w'; go_simp; with_reducible rfl)
         rotate_left
         · (simp only [put_s, List.set, i64_w, i32_w]; rfl)
         refine pu_ (i := 16) (N := some 168) (v := ?_) (a' := ?_) rfl rfl (by kernel_rfl) (fun _ _ _ h => h) (by rfl) ?_ ?_ ?_
         rotate_left
         · (intro w'; go_simp; with_reducible rfl)
         rotate_left
         · (simp only [put_s, List.set, i64_w, i32_w]; rfl)
         refine pu_ (i := 17) (N := some 169) (v := ?_) (a' := ?_) rfl rfl (by kernel_rfl) (fun _ _ _ h => h) (by rfl) ?_ ?_ ?_
         rotate_left
         · (intro w'; go_simp; with_reducible rfl)
         rotate_left
         · (simp only [put_s, List.set, i64_w, i32_w]; rfl)
         refine tk_ (i := 18) (N := some 170) (v := ?_) (a' := ?_) rfl rfl (by kernel_rfl) (fun _ _ _ h => h) (by rfl) ?_ hHeld ?_ ?_
         rotate_left
         · (intro w' s0; go_simp; with_reducible rfl)
         rotate_left
         · (simp only [put_s, List.set, i64_w, i32_w]; rfl)
         refine pu_ (i := 19) (N := some 171) (v := ?_) (a' := ?_) rfl rfl (by kernel_rfl) (fun _ _ _ h => h) (by rfl) ?_ ?_ ?_
         rotate_left
         · (intro w'; go_simp; with_reducible rfl)
         rotate_left
         · (simp only [put_s, List.set, i64_w, i32_w]; rfl)
         refine pu_ (i := 20) (N := some 172) (v := ?_) (a' := ?_) rfl rfl (by kernel_rfl) (fun _ _ _ h => h) (by rfl) ?_ ?_ ?_
         rotate_left
         · (intro w'; go_simp; with_reducible rfl)
         rotate_left
         · (simp only [put_s, List.set, i64_w, i32_w]; rfl)
         refine tk_ (i := 21) (N := some 173) (v := ?_) (a' := ?_) rfl rfl (by kernel_rfl) (fun _ _ _ h => h) (by rfl) ?_ hHeld ?_ ?_
         rotate_left
         · (intro w' s0; go_simp; with_reducible rfl)
         rotate_left
         · (simp only [put_s, List.set, i64_w, i32_w]; rfl)
         refine pu_ (i := 22) (N := some 174) (v := ?_) (a' := ?_) rfl rfl (by kernel_rfl) (fun _ _ _ h => h) (by rfl) ?_ ?_ ?_
         rotate_left
         · (intro w'; go_simp; with_reducible rfl)
         rotate_left
         · (simp only [put_s, List.set, i64_w, i32_w]; rfl)
         refine pu_ (i := 23) (N := some 175) (v := ?_) (a' := ?_) rfl rfl (by kernel_rfl) (fun _ _ _ h => h) (by rfl) ?_ ?_ ?_
         rotate_left
         · (intro w'; go_simp; with_reducible rfl)
         rotate_left
         · (simp only [put_s, List.set, i64_w, i32_w]; rfl)
         refine pu_ (i := 24) (N := some 176) (v := ?_) (a' := ?_) rfl rfl (by kernel_rfl) (fun _ _ _ h => h) (by rfl) ?_ ?_ ?_
         rotate_left
         · (intro w'; go_simp; with_reducible rfl)
         rotate_left
         · (simp only [put_s, List.set, i64_w, i32_w]; rfl)
         refine pu_ (i := 25) (N := some 177) (v := ?_) (a' := ?_) rfl rfl (by kernel_rfl) (fun _ _ _ h => h) (by rfl) ?_ ?_ ?_
         rotate_left
         · (intro w'; go_simp; with_reducible rfl)
         rotate_left
         · (simp only [put_s, List.set, i64_w, i32_w]; rfl)
         refine tk_ (i := 26) (N := some 178) (v := ?_) (a' := ?_) rfl rfl (by kernel_rfl) (fun _ _ _ h => h) (by rfl) ?_ hHeld ?_ ?_
         rotate_left
         · (intro w' s0; go_simp; with_reducible rfl)
         rotate_left
         · (simp only [put_s, List.set, i64_w, i32_w]; rfl)
         refine pu_ (i := 27) (N := some 179) (v := ?_) (a' := ?_) rfl rfl (by kernel_rfl) (fun _ _ _ h => h) (by rfl) ?_ ?_ ?_
         rotate_left
         · (intro w'; go_simp; with_reducible rfl)
         rotate_left
         · (simp only [put_s, List.set, i64_w, i32_w]; rfl)
         refine pu_ (i := 28) (N := some 180) (v := ?_) (a' := ?_) rfl rfl (by kernel_rfl) (fun _ _ _ h => h) (by rfl) ?_ ?_ ?_
         rotate_left
         · (intro w'; go_simp; with_reducible rfl)
         rotate_left
         · (simp only [put_s, List.set, i64_w, i32_w]; rfl)
         refine pu_ (i := 29) (N := some 181) (v := ?_) (a' := ?_) rfl rfl (by kernel_rfl) (fun _ _ _ h => h) (by rfl) ?_ ?_ ?_
         rotate_left
         · (intro w'; go_simp; with_reducible rfl)
         rotate_left
         · (simp only [put_s, List.set, i64_w, i32_w]; rfl)
         refine pu_ (i := 30) (N := some 182) (v := ?_) (a' := ?_) rfl rfl (by kernel_rfl) (fun _ _ _ h => h) (by rfl) ?_ ?_ ?_
         rotate_left
         · (intro w'; go_simp; with_reducible rfl)
         rotate_left
         · (simp only [put_s, List.set, i64_w, i32_w]; rfl)
         refine pu_ (i := 31) (N := some 183) (v := ?_) (a' := ?_) rfl rfl (by kernel_rfl) (fun _ _ _ h => h) (by rfl) ?_ ?_ ?_
         rotate_left
         · (intro w'; go_simp; with_reducible rfl)
         rotate_left
         · (simp only [put_s, List.set, i64_w, i32_w]; rfl)
         refine tk_ (i := 32) (N := some 184) (v := ?_) (a' := ?_) rfl rfl (by kernel_rfl) (fun _ _ _ h => h) (by rfl) ?_ hHeld ?_ ?_
         rotate_left
         · (intro w' s0; go_simp; with_reducible rfl)
         rotate_left
         · (simp only [put_s, List.set, i64_w, i32_w]; rfl)
         refine pu_ (i := 33) (N := some 185) (v := ?_) (a' := ?_) rfl rfl (by kernel_rfl) (fun _ _ _ h => h) (by rfl) ?_ ?_ ?_
         rotate_left
         · (intro w'; go_simp; with_reducible rfl)
         rotate_left
         · (simp only [put_s, List.set, i64_w, i32_w]; rfl)
         refine pu_ (i := 34) (N := some 186) (v := ?_) (a' := ?_) rfl rfl (by kernel_rfl) (fun _ _ _ h => h) (by rfl) ?_ ?_ ?_
         rotate_left
         · (intro w'; go_simp; with_reducible rfl)
         rotate_left
         · (simp only [put_s, List.set, i64_w, i32_w]; rfl)
         refine done_ (by kernel_rfl) ?_
         go_wp2_with fail
         exact ⟨⟨t + 1, by omega, by go_num, Lib.hid ((HBi.out.alloc HBi.out.size _).drew)⟩, by simp [intOf]; omega⟩
        ·
         obtain rfl : t = p.2.length := by omega
         have dt : decide (((p.2.length : Nat) : Int) < (p.2.length : Int)) = false := by simp
         go_wp2_with fail
         exact ⟨⟨j + 1, by omega, by go_num, HBi⟩, by simp [intOf]; omega⟩
      ·
       obtain rfl : j = h.R.length := by omega
       have dl : decide (((h.R.length : Nat) : Int) < (h.R.length : Int)) = false := by simp
       go_wp2_with fail
       obtain ⟨A3, c3, hc3, k3, hl3⟩ := row_at (i := 13) HW.out.blk rfl HW.out.e.1
       rw [List.length_map] at hc3 k3 hl3
       have HC3 := Lib.hid hl3
       have HK3 := Lib.hid k3
       have HBe := Lib.hid HBo.out
       clear hl3 k3
       go_loopw [11, 12] (fun i k wr => ∃ (j : Nat), j ≤ h.E.length ∧ i = .int .i64 (j : Int) ∧ Hid (Below w.heap.size w wr)) (fun i _ _ => h.E.length - (intOf i).toNat)
       case atStart => exact ⟨0, by omega, rfl, HBe⟩
       case round =>
        clear HBe
        obtain ⟨j, hj, rfl, HBo⟩ := hrel
        have k3 := Kp.cellOf (own := own) HBo.out HK3.out
        by_cases hlt : j < h.E.length
        ·
         have dl : decide ((j : Int) < (h.E.length : Int)) = true := by simp; omega
         obtain ⟨p, hp⟩ : ∃ p, h.E[j]? = some p := ⟨h.E[j], List.getElem?_eq_getElem hlt⟩
         obtain ⟨a3, rfl, e1⟩ := sl_at HC3.out j hlt p.1 (by rw [List.getElem?_map, hp]; rfl)
         obtain ⟨hp1, hp2, hp3⟩ := ow_len (HW.out.e.2 j p hp)
         simp only [Sl.enc] at e1
         rw [← hp1] at e1 hp3 hp2
         have HP := Lib.hid hp3
         have HE1 := Lib.hid e1
         have hpx := HM.out.ex p (List.mem_of_getElem? hp)
         have HPP := Lib.hid hp
         generalize hB3 : p.1.A = B3 at HP HE1
         generalize hd3 : p.1.c = d3 at HE1 hp2
         clear e1 hp hp1 hp3 hB3 hd3
         have f3 := Kp.cellOf (own := own) HBo.out HE1.out
         go_wp2_with fail
         clear k3 f3
         go_loopw [12] (fun k wr => ∃ (t : Nat), t ≤ p.2.length ∧ k = .int .i64 (t : Int) ∧ Hid (Below w.heap.size w wr)) (fun k _ => p.2.length - (intOf k).toNat)
         case atStart => exact ⟨0, by omega, rfl, HBo⟩
         case round =>
          obtain ⟨t, ht, rfl, HBi⟩ := hrel
          have k3 := Kp.cellOf (own := own) HBi.out HK3.out
          have f3 := Kp.cellOf (own := own) HBi.out HE1.out
          by_cases htl : t < p.2.length
          ·
           have dt : decide ((t : Int) < (p.2.length : Int)) = true := by simp; omega
           obtain ⟨x, hx⟩ : ∃ x, p.2[t]? = some x := ⟨p.2[t], List.getElem?_eq_getElem htl⟩
           obtain ⟨b3, rfl, y0⟩ := sc_at (Kd.C_below HP.out HBi.out) t htl x hx
           obtain rfl := HLK.out.le p (List.mem_of_getElem? HPP.out) x (List.mem_of_getElem? hx)
           clear hx
           go_wp2_with fail
           exact ⟨⟨t + 1, by omega, by go_num, HBi⟩, by simp [intOf]; omega⟩
          ·
           obtain rfl : t = p.2.length := by omega
           have dt : decide (((p.2.length : Nat) : Int) < (p.2.length : Int)) = false := by simp
           go_wp2_with fail
           exact ⟨⟨j + 1, by omega, by go_num, HBi⟩, by simp [intOf]; omega⟩
        ·
         obtain rfl : j = h.E.length := by omega
         have dl : decide (((h.E.length : Nat) : Int) < (h.E.length : Int)) = false := by simp
         go_wp2_with fail
         go_ret
         exact ⟨rfl, HBo.out⟩
end Go.Proofs.Ytpflenaoplblkaa.PaQ
end
section
namespace Go.Proofs.Ytpflenaoplblkaa.PaR
open Go.RowKit YtpflenaoplblkaaW.PrintWords YtpflenaoplblkaaW.PrintLast ProA ProB ProC ProI ProD ProG ProJ ProK ProL ProM ProN ProO ProP ProQ ProR ProU ProZ ProBb PaA
open ProH (msgTab repTab ba)
open ProS PaI PaJ PaK PaL
open PaM PaN PaO PaP PaQ
set_option linter.unusedVariables false
set_option linter.unusedSimpArgs false
theorem cut_e (A : Option Addr) (n c k : Nat) (hk : k < n) (hc : n ≤ c) : ∀ W : World, (Instr.slice 53 (.slice A n c) (some (.int .i64 ((k : Int) + 1))) none none).run Try.prog W = .ok (.slice (if c = k + 1 then A else A.map (·.add (k + 1))) (n - (k + 1)) (c - (k + 1))) W := by
 intro W
 obtain ⟨i0, hi, hzz⟩ := Option.map_eq_some_iff.1 info22
 simp only [Prod.mk.injEq] at hzz
 have ht : Try.prog.underlying 53 = some (.slice 22) := Try.underlying53
 have hel : Try.prog.elem 53 = 22 := by simp [Program.elem, ht]
 have hu : Try.prog.underlying 53 = some (.slice (Try.prog.elem 53)) := by rw [hel]; exact ht
 rw [show ((k : Int) + 1) = ((k + 1 : Nat) : Int) from by omega, run_slice_l W 53 A n c hu .i64 ((k + 1 : Nat) : Int) (Int.natCast_nonneg _) (by omega), hel]
 simp [sizeOf, typeInfo, hi, hzz.2.1, sliced, Result.andThen]
theorem head_e (A : Option Addr) (n c k : Nat) (hk : k ≤ n) (hc : n ≤ c) : ∀ W : World, (Instr.slice 53 (.slice A n c) none (some (.int .i64 (k : Int))) none).run Try.prog W = .ok (.slice A k c) W := by
 intro W
 obtain ⟨i0, hi, hzz⟩ := Option.map_eq_some_iff.1 info22
 simp only [Prod.mk.injEq] at hzz
 have ht : Try.prog.underlying 53 = some (.slice 22) := Try.underlying53
 have hel : Try.prog.elem 53 = 22 := by simp [Program.elem, ht]
 have hu : Try.prog.underlying 53 = some (.slice (Try.prog.elem 53)) := by rw [hel]; exact ht
 have ha : (A.map fun x => x.add 0) = A := by cases A <;> simp [Addr.add]
 rw [run_slice_h W 53 A n c hu .i64 (k : Int) (by omega) (by omega), hel]
 simp [sizeOf, typeInfo, hi, hzz.2.1, sliced, Result.andThen, ha]
theorem head_b (A : Option Addr) (n c k : Nat) (hk : k ≤ n) (hc : n ≤ c) : ∀ W : World, (Instr.slice 22 (.slice A n c) none (some (.int .i64 (k : Int))) none).run Try.prog W = .ok (.slice A k c) W := by
 intro W
 obtain ⟨i0, hi, hzz⟩ := Option.map_eq_some_iff.1 info5
 simp only [Prod.mk.injEq] at hzz
 have ht : Try.prog.underlying 22 = some (.slice 5) := Try.underlying22
 have hel : Try.prog.elem 22 = 5 := by simp [Program.elem, ht]
 have hu : Try.prog.underlying 22 = some (.slice (Try.prog.elem 22)) := by rw [hel]; exact ht
 have ha : (A.map fun x => x.add 0) = A := by cases A <;> simp [Addr.add]
 rw [run_slice_h W 22 A n c hu .i64 (k : Int) (by omega) (by omega), hel]
 simp [sizeOf, typeInfo, hi, hzz.2.1, sliced, Result.andThen, ha]
def outT (own : Nat → Nat) (k : Nat) : Nat → Nat := fun b => if own b % 32 = 19 then (if own b = 32 * k + 19 then 26 else if 32 * k + 19 < own b then own b - 32 else own b) else own b
theorem Kp.outT (w : World) (own : Nat → Nat) (k : Nat) : Kp (fun q => q % 32 = 19) w own w (outT own k) := ⟨rfl, rfl, rfl, Nat.le_refl _, fun b _ hn => ⟨if_neg hn, rfl⟩⟩
theorem outT_at {own : Nat → Nat} {k b : Nat} (h : own b = 32 * k + 19) : outT own k b = 26 := by
 unfold PaR.outT
 rw [if_pos (by omega), if_pos h]
theorem outT_lt {own : Nat → Nat} {k i b : Nat} (h : own b = 32 * i + 19) (hi : i < k) : outT own k b = 32 * i + 19 := by
 unfold PaR.outT
 rw [if_pos (by omega), if_neg (by omega), if_neg (by omega), h]
theorem outT_gt {own : Nat → Nat} {k i b : Nat} (h : own b = 32 * (i + 1) + 19) (hi : k ≤ i) : outT own k b = 32 * i + 19 := by
 unfold PaR.outT
 rw [if_pos (by omega), if_neg (by omega), if_pos (by omega), h]
 omega
theorem po_out {w : World} {own : Nat → Nat} {v : Sl} {E : List (Sl × List Int)} {k : Nat} (hr : Ow slK 22 w own 18 v ((E.map (·.1)).eraseIdx k)) (h : ∀ i p, E[i]? = some p → Ow u8K 5 w own (32 * i + 19) p.1 p.2) : PO u8K 5 22 18 19 w (outT own k) v (E.eraseIdx k) := by
 refine ⟨?_, fun i p hp => ?_⟩
 ·
  rw [show (E.eraseIdx k).map (·.1) = (E.map (·.1)).eraseIdx k from by simp [List.eraseIdx_eq_take_drop_succ, List.map_take, List.map_drop]]
  exact Kd.R_mono hr (fun b hb => by unfold PaR.outT; rw [if_neg (by omega)]; exact hb)
 ·
  rw [List.getElem?_eraseIdx] at hp
  split at hp
  · exact Kd.R_mono (h i p hp) (fun b hb => outT_lt hb (by assumption))
  · exact Kd.R_mono (h (i + 1) p hp) (fun b hb => outT_gt hb (by omega))
end Go.Proofs.Ytpflenaoplblkaa.PaR
end
section
namespace Go.Proofs.Ytpflenaoplblkaa.PaS
open Go.RowKit YtpflenaoplblkaaW.PrintWords YtpflenaoplblkaaW.PrintLast ProA ProB ProC ProI ProD ProG ProJ ProK ProL ProM ProN ProO ProP ProQ ProR ProU ProZ ProBb PaA
open ProH (msgTab repTab ba)
open ProS PaI PaJ PaK PaL
open PaM PaN PaO PaP PaQ PaR
set_option linter.unusedVariables false
set_option linter.unusedSimpArgs false
def handS (G l : Sl) : Sl := match l.A with | none => nilS | some _ => ⟨G.A, l.n, G.c⟩
set_option maxRecDepth 100000 in
theorem handed_ok (G l : Sl) (w : World) (h : l.n ≤ G.n) (hc : G.n ≤ G.c) : Calls Try.prog 52 #[G.enc, l.enc] w fun e w' => e = .returned (handS G l).enc ∧ w = w' := by
 obtain ⟨A, n, c⟩ := l
 obtain ⟨B, m, d⟩ := G
 have hb : ∀ W : World, (Instr.slice 22 (.slice B m d) none (some (.int .i64 (n : Int))) none).run Try.prog W = .ok (.slice B n d) W := head_b B m d n h hc
 simp only [Sl.enc]
 cases A with
 | none =>
  have hq : ∀ W : World, (binOp .eql 22 (.slice none n c) (.slice none 0 0)).run Try.prog W = .ok (.bool true) W := by
   intro W
   have ht := Try.underlying22
   simp [binOp, go_sem]
   rw [run_equal_slice_nil W 22 5 none n c ht]
   rfl
  go_enter Try.func52, Try.ntmps52
  go_wp2_with fail
  go_ret
  exact ⟨rfl, rfl⟩
 | some a =>
  have hq : ∀ W : World, (binOp .eql 22 (.slice (some a) n c) (.slice none 0 0)).run Try.prog W = .ok (.bool false) W := by
   intro W
   have ht := Try.underlying22
   simp [binOp, go_sem]
   rw [run_equal_slice_nil W 22 5 (some a) n c ht]
   rfl
  go_enter Try.func52, Try.ntmps52
  go_wp2_with fail
  go_ret
  exact ⟨rfl, rfl⟩
theorem row_ow {α : Type} {d : Kd α} {w : World} {own : Nat → Nat} {g i t e : Nat} {cs : Array Value} {f : Sl} {xs : List α} (hb : Blk w g cs 61) (hi : cs[i]? = some f.enc) (ho : Ow d e w own t f xs) : ∃ A c, xs.length ≤ c ∧ w.cell? ⟨g, i, none⟩ = some (.slice A xs.length c) ∧ Ow d e w own t ⟨A, xs.length, c⟩ xs := by
 obtain ⟨h1, h2, h3⟩ := ow_len ho
 have hc := Blk.cell (i := i) hb hi
 obtain ⟨A, n, c⟩ := f
 obtain rfl : xs.length = n := h1
 exact ⟨A, c, h2, hc, ho⟩
structure LendSt (w W0 : World) (own : Nat → Nat) (g : Nat) (s0 : St) (h0 : Gh) (wr : World) (o : Nat → Nat) (G : Sl) (ys : List Int) : Prop where
 inv : WInv wr g o s0 h0
 ow : Ow u8K 5 wr o 26 G ys
 kp : Kp (fun q => q = 2 ∨ q = 18 ∨ q % 32 = 19 ∨ q = 26) w own wr o
theorem lend_push {w W0 : World} {own : Nat → Nat} {g : Nat} {s0 : St} {h0 : Gh} {wr w1 : World} {o : Nat → Nat} {G G1 : Sl} {ys zs : List Int} (H : LendSt w W0 own g s0 h0 wr o G ys) (ho : Ow u8K 5 w1 (tagged wr o 26) 26 G1 zs) (hk : Kp (fun q => q = 26) wr o w1 (tagged wr o 26)) : LendSt w W0 own g s0 h0 w1 (tagged wr o 26) G1 zs :=
  ⟨H.inv.keep (hk.mono (fun q hq => .inr (by omega))), ho, H.kp.trans (hk.mono (fun q hq => by omega))⟩
set_option maxHeartbeats 4000000 in
set_option maxRecDepth 100000 in
theorem lend_ok (w : World) (g tD : Nat) (own : Nat → Nat) (s : St) (h : Gh) (D : Sl) (xs : List Int) (H : WInv w g own s h) (hm : Sm h) (hD : Rd u8K w own tD D xs) (ht : tD = 0 ∨ tD = 27) (hx : xs.length ≤ 100000000000) :
  Calls Try.prog 51 #[pt g, D.enc] w fun e w' => ∃ own' G E1 v, e = .returned G.enc ∧ WInv w' g own' { s with e := v } { h with E := E1 } ∧ (∀ p ∈ E1, p ∈ h.E) ∧ E1.length ≤ h.E.length ∧ Ow u8K 5 w' own' 26 G (xs ++ List.replicate 8 252) ∧ Kp (fun q => q = 2 ∨ q = 18 ∨ q % 32 = 19 ∨ q = 26) w own w' own' := by
 have hE := hm.E
 have hdn : xs.length = D.n := Kd_C_len hD.1
 have hDn := hdn ▸ hx
 obtain ⟨A3, c3, hc3, k3, hl3⟩ := row_ow (i := 13) H.blk rfl H.e.1
 rw [List.length_map] at hc3 k3 hl3
 have HR := Lib.hid hl3
 have HM := Lib.hid hm
 have HW := Lib.hid H
 have HD := Lib.hid hD
 have HDN := Lib.hid hdn
 clear hl3 hm H hD hdn
 go_enter Try.func51, Try.ntmps51
 simp only [Sl.enc]
 go_wp2_with fail
 go_loopw [5, 6] (fun b i wr => w = wr ∧ b = .slice none 0 0 ∧ (i = .int .i64 (-1) ∨ ∃ k : Nat, k < h.E.length ∧ i = .int .i64 (k : Int))) (fun _ i _ => (intOf i + 1).toNat)
 case atStart =>
  refine ⟨rfl, rfl, ?_⟩
  by_cases h0 : h.E.length = 0
  ·
   left
   rw [h0]
   rfl
  ·
   right
   exact ⟨h.E.length - 1, by omega, by go_num⟩
 case round =>
  obtain ⟨rfl, rfl, hi⟩ := hrel
  rcases hi with rfl | ⟨k, hlt, rfl⟩
  ·
   have HS0 := Lib.hid (show LendSt w w own g s h w own nilS [] from ⟨HW.out, Kd.R_nil _ _ _ _ _, Kp.refl _ _ _⟩)
   have hD3 := (Rd.keep u8K_K (by decide) HD.out HS0.out.kp (by (intro hq; first | omega | (dsimp only at hq; omega) | (dsimp only at hq; done)))).1
   have HD3 := Lib.hid hD3
   clear hD3
   go_wp2_with (
    ((with_reducible refine gate_builtin (b := .append) (xs := #[.tmp 55, .tmp 56]) rfl ?_); at_builtin; refine Kd.R_append_rows u8K (Rr := u8K.K _) (w0 := w) 0 rfl (.tmp 55) (.tmp 56) 22 5 (.int .u8 0) 1 rfl Try.underlying22 info5 rfl (by decide) (by decide) nilS.enc [] xs D.A D.n D.c (fun k => tagged w own 26 k = 26) (fun _ => False) rfl rfl (Ow.alloc HS0.out.ow (Below.refl _ _)) HD3.out (fun _ _ hh => hh) (fun _ hk => hk.elim) (fun q hq => tagged_new hq) (Below.refl 0 _) (Nat.zero_le _) ?hl ?_; (case hl => simp; omega); intro v1 w1 ho hb hg hat; obtain ⟨G1, rfl, ho', hk'⟩ := Ow.pushed HS0.out.ow (Below.refl _ _) ho hg; rw [List.nil_append] at ho'; have HS1 := Lib.hid (lend_push HS0.out ho' hk'); clear ho hb hg hat ho' hk'; generalize tagged w own 26 = o1 at HS1; simp only [Sl.enc]))
   go_loopw [5, 7] (fun b i wr => ∃ (j : Nat) (o : Nat → Nat) (G : Sl), j ≤ 8 ∧ i = .int .i64 (j : Int) ∧ b = .slice G.A G.n G.c ∧ Hid (LendSt w w own g s h wr o G (xs ++ List.replicate j 252))) (fun _ i _ => 8 - (intOf i).toNat)
   case atStart => exact ⟨0, o1, G1, by omega, rfl, rfl, by simpa using HS1⟩
   case round =>
    clear HS1 HS0 HD3
    obtain ⟨j, o, G, hj, rfl, rfl, HS⟩ := hrel
    by_cases hlt : j < 8
    ·
     have dl : decide ((j : Int) < 8) = true := by simp; omega
     go_wp2_with (
      ((with_reducible refine gate_builtin (b := .append) (xs := #[.tmp 62, .tmp 63]) rfl ?_); at_builtin; refine Kd.R_append u8K (w0 := wr) 0 rfl (.tmp 62) (.tmp 63) 22 5 (.int .u8 0) 1 rfl Try.underlying22 info5 rfl (by decide) (by decide) G.enc (xs ++ List.replicate j 252) 252 [.int .u8 252] (fun k => tagged wr o 26 k = 26) (fun _ => False) rfl rfl rfl (fun _ hk => hk.elim) (fun q hq => tagged_new hq) (Ow.alloc HS.out.ow (Below.refl _ _)) (Below.refl 0 _) (Nat.zero_le _) ?hl ?_; (case hl => simp; omega); intro v1 w1 ho hb hg hat; obtain ⟨G1, rfl, ho', hk'⟩ := Ow.pushed HS.out.ow (Below.refl _ _) ho hg; have HS1 := Lib.hid (lend_push HS.out ho' hk'); clear ho hb hg hat ho' hk'; generalize tagged wr o 26 = o1 at HS1; simp only [Sl.enc]))
     refine ⟨⟨j + 1, o1, G1, by omega, by go_num, rfl, ?_⟩, by simp [intOf]; omega⟩
     have e9 : xs ++ List.replicate (j + 1) 252 = xs ++ List.replicate j 252 ++ [252] := by rw [List.replicate_succ', List.append_assoc]
     rw [e9]
     exact HS1
    ·
     obtain rfl : j = 8 := by omega
     have dl : decide (((8 : Nat) : Int) < 8) = false := by decide
     go_wp2_with fail
     go_ret
     exact ⟨o, G, h.E, s.e, rfl, HS.out.inv, fun p hp => hp, Nat.le_refl _, HS.out.ow, HS.out.kp⟩
  ·
   obtain ⟨p, hp⟩ : ∃ p, h.E[k]? = some p := ⟨h.E[k], List.getElem?_eq_getElem hlt⟩
   obtain ⟨ad, rfl, e1⟩ := sl_at (ow_len HR.out).2.2 k hlt p.1 (by rw [List.getElem?_map, hp]; rfl)
   simp only [Sl.enc] at e1
   obtain ⟨hp1, hp2, hp3⟩ := ow_len (HW.out.e.2 k p hp)
   have hpx := HM.out.ex p (List.mem_of_getElem? hp)
   have HP := Lib.hid hp
   clear hp hp3
   have dl : decide ((k : Int) ≥ 0) = true := decide_eq_true (by omega)
   by_cases hlen : p.1.n = D.n + 8
   ·
    have d2 : ((p.1.n : Int) == (D.n : Int) + 8) = true := by rw [beq_iff_eq]; omega
    have hsb : ∀ W : World, (Instr.slice 22 (.slice p.1.A p.1.n p.1.c) none (some (.int .i64 0)) none).run Try.prog W = .ok (.slice p.1.A 0 p.1.c) W := head_b p.1.A p.1.n p.1.c 0 (Nat.zero_le _) hp2
    have hse := head_e (some ad) h.E.length c3 k (by omega) hc3
    have hsc := cut_e (some ad) h.E.length c3 k hlt hc3
    obtain ⟨AX, hAX⟩ : ∃ AX, AX = (if c3 = k + 1 then some ad else (some ad).map (·.add (k + 1))) := ⟨_, rfl⟩
    rw [← hAX] at hsc
    have HAX := Lib.hid hAX
    clear hAX
    obtain ⟨gb, hgb⟩ := Kd.R_head HR.out
    have HAD := Lib.hid hgb
    have HGB := Lib.hid (show own gb = 18 from (ow_blk HR.out gb (by rw [hgb]; rfl)).1)
    have HLEN := Lib.hid hlen
    have HP1 := Lib.hid hp1
    have hk1 : wrap64 ((k : Int) + 1) = (k : Int) + 1 := by
     unfold wrap64
     omega
    have HP2 := Lib.hid hp2
    clear hgb hlen hp1
    go_wp2_with fail
    refine start_ (n := 18) (S := fun w' => w'.cell? ⟨g, 13, none⟩ = some (.slice (some ad) h.E.length c3)) (ds := [14, 17]) #[false, false, false, false, false, false, false, false, false, false, false, false, false, false, false, false, false, false] (by kernel_rfl) rfl rfl k3 (fun hHeld => ?_)
    refine pu_ (i := 0) (N := some 38) (v := ?_) (a' := ?_) rfl rfl (by kernel_rfl) (fun _ _ _ h => h) (by rfl) ?_ ?_ ?_
    rotate_left
    · (intro w'; go_simp; with_reducible rfl)
    rotate_left
    · (simp only [put_s, List.set, i64_w, i32_w]; rfl)
    refine pu_ (i := 1) (N := some 39) (v := ?_) (a' := ?_) rfl rfl (by kernel_rfl) (fun _ _ _ h => h) (by rfl) ?_ ?_ ?_
    rotate_left
    · (intro w'; go_simp; with_reducible rfl)
    rotate_left
    · (simp only [put_s, List.set, i64_w, i32_w]; rfl)
    refine pu_ (i := 2) (N := some 40) (v := ?_) (a' := ?_) rfl rfl (by kernel_rfl) (fun _ _ _ h => h) (by rfl) ?_ ?_ ?_
    rotate_left
    · (intro w'; go_simp; with_reducible rfl)
    rotate_left
    · (simp only [put_s, List.set, i64_w, i32_w]; rfl)
    refine pu_ (i := 3) (N := some 41) (v := ?_) (a' := ?_) rfl rfl (by kernel_rfl) (fun _ _ _ h => h) (by rfl) ?_ ?_ ?_
    rotate_left
    · (intro w'; go_simp; with_reducible rfl)
    rotate_left
    · (simp only [put_s, List.set, i64_w, i32_w]; rfl)
    refine tk_ (i := 4) (N := some 42) (v := ?_) (a' := ?_) rfl rfl (by kernel_rfl) (fun _ _ _ h => h) (by rfl) ?_ hHeld ?_ ?_
    rotate_left
    · (intro w' s0; go_simp; with_reducible rfl)
    rotate_left
    · (simp only [put_s, List.set, i64_w, i32_w]; rfl)
    refine pu_ (i := 5) (N := some 43) (v := ?_) (a' := ?_) rfl rfl (by kernel_rfl) (fun _ _ _ h => h) (by rfl) ?_ ?_ ?_
    rotate_left
    · (intro w'; go_simp; with_reducible rfl)
    rotate_left
    · (simp only [put_s, List.set, i64_w, i32_w]; rfl)
    refine pu_ (i := 6) (N := some 44) (v := ?_) (a' := ?_) rfl rfl (by kernel_rfl) (fun _ _ _ h => h) (by rfl) ?_ ?_ ?_
    rotate_left
    · (intro w'; go_simp; with_reducible rfl)
    rotate_left
    · (simp only [put_s, List.set, i64_w, i32_w]; rfl)
    refine pu_ (i := 7) (N := some 45) (v := ?_) (a' := ?_) rfl rfl (by kernel_rfl) (fun _ _ _ h => h) (by rfl) ?_ ?_ ?_
    rotate_left
    · (intro w'; go_simp; with_reducible rfl)
    rotate_left
    · (simp only [put_s, List.set, i64_w, i32_w]; rfl)
    refine pu_ (i := 8) (N := some 46) (v := ?_) (a' := ?_) rfl rfl (by kernel_rfl) (fun _ _ _ h => h) (by rfl) ?_ ?_ ?_
    rotate_left
    · (intro w'; go_simp; with_reducible rfl)
    rotate_left
    · (simp only [put_s, List.set, i64_w, i32_w]; rfl)
    refine pu_ (i := 9) (N := some 47) (v := ?_) (a' := ?_) rfl rfl (by kernel_rfl) (fun _ _ _ h => h) (by rfl) ?_ ?_ ?_
    rotate_left
    · (intro w'; go_simp; with_reducible rfl)
    rotate_left
    · (simp only [put_s, List.set, i64_w, i32_w]; rfl)
    refine tk_ (i := 10) (N := some 48) (v := ?_) (a' := ?_) rfl rfl (by kernel_rfl) (fun _ _ _ h => h) (by rfl) ?_ hHeld ?_ ?_
    rotate_left
    · (intro w' s0; go_simp; with_reducible rfl)
    rotate_left
    · (simp only [put_s, List.set, i64_w, i32_w]; rfl)
    refine pu_ (i := 11) (N := some 49) (v := ?_) (a' := ?_) rfl rfl (by kernel_rfl) (fun _ _ _ h => h) (by rfl) ?_ ?_ ?_
    rotate_left
    · (intro w'; go_simp; with_reducible rfl)
    rotate_left
    · (simp only [put_s, List.set, i64_w, i32_w]; rfl)
    refine pu_ (i := 12) (N := some 50) (v := ?_) (a' := ?_) rfl rfl (by kernel_rfl) (fun _ _ _ h => h) (by rfl) ?_ ?_ ?_
    rotate_left
    · (intro w'; go_simp; with_reducible rfl)
    rotate_left
    · (simp only [put_s, List.set, i64_w, i32_w]; rfl)
    refine pu_ (i := 13) (N := some 51) (v := ?_) (a' := ?_) rfl rfl (by kernel_rfl) (fun _ _ _ h => h) (by rfl) ?_ ?_ ?_
    rotate_left
    · (intro w'; go_simp; with_reducible rfl)
    rotate_left
    · (simp only [put_s, List.set, i64_w, i32_w]; rfl)
    refine la_ (i := 14) (N := some 52) rfl rfl (by kernel_rfl) (by decide) (fun K hK => ?_)
    refine Kd.R_delete_step slK (w0 := w) 0 (by rfl) (.tmp 44) (.tmp 51) 53 22 rfl Try.underlying53 (by kernel_rfl) (g := gb) (n := h.E.length) (c := c3) (k := k) (A := AX) (xs := h.E.map (·.1)) (ok := fun b => own b = 18) (by show Value.slice (some ad) _ _ = _; rw [HAD.out]) rfl (by rw [HAX.out, HAD.out]; simp [slK, Kd.scalar]) rfl (by have := HR.out; rw [HAD.out] at this; exact Kd.R_below this (Below.drew (Below.refl _ _))) hlt (Below.drew (Below.refl 0 _)) (Nat.zero_le _) ?_
    intro w1 hr1 hb1 hg1
    have hk1 : Kp (fun q => q = 18) w own w1 own := ⟨hg1.os, hg1.tape, hg1.output, hg1.size, fun b hb hn => ⟨rfl, hg1.block b hb (fun e => hn (by injection e with e; subst e; exact HGB.out))⟩⟩
    have HR1 : Hid (Ow slK 22 w1 own 18 ⟨some ⟨gb, 0, none⟩, h.E.length - 1, c3⟩ ((h.E.map (·.1)).eraseIdx k)) := Lib.hid hr1
    have HK1 := Lib.hid hk1
    have hbb := Blk.keep HW.out.blk hk1 (by rw [HW.out.og]; decide)
    have HB1 := Lib.hid hbb.1
    have c1 := Blk.cell (i := 13) hbb.1 rfl
    have z1 := Blk.frozen (i := 13) hbb.1
    clear hr1 hb1 hg1 hk1 hbb
    refine hK.out _ _ ?_
    clear hK K
    refine norm_ (a' := ?_) ?_ ?_
    rotate_left
    ·
     show Act.put _ (some 52) _ = _
     simp only [put_s, List.set, i64_w, i32_w]
     rfl
    refine pu_ (i := 15) (N := some 53) (v := ?_) (a' := ?_) rfl rfl (by kernel_rfl) (fun _ _ _ h => h) (by rfl) ?_ ?_ ?_
    rotate_left
    · (intro w'; go_simp; with_reducible rfl)
    rotate_left
    · (simp only [put_s, List.set, i64_w, i32_w]; rfl)
    refine pu_ (i := 16) (N := some 54) (v := ?_) (a' := ?_) rfl rfl (by kernel_rfl) (fun _ _ _ h => h) (by rfl) ?_ ?_ ?_
    rotate_left
    · (intro w'; go_simp; with_reducible rfl)
    rotate_left
    · (simp only [put_s, List.set, i64_w, i32_w]; rfl)
    refine la_ (i := 17) (N := none) rfl rfl (by kernel_rfl) (by decide) (fun K hK => ?_)
    refine skip_ (w1 := w1.setCell ⟨g, 13, none⟩ (Sl.enc ⟨some ⟨gb, 0, none⟩, h.E.length - 1, c3⟩)) (by rfl) rfl (by simp only [Sl.enc]; go_simp) ?_
    refine hK.out _ _ ?_
    clear hK K
    refine done_ (by kernel_rfl) ?_
    clear c1 z1
    obtain ⟨hb', hk', ho'⟩ := push_end (e := 22) (d := slK) (s1 := ⟨some ⟨gb, 0, none⟩, h.E.length - 1, c3⟩) 13 HB1.out HK1.out HR1.out HW.out.og (by decide)
    have HBS1 := Lib.hid hb'
    have HKS1 := Lib.hid hk'
    have HOS1 := Lib.hid ho'
    clear hb' hk' ho' HB1 HK1 HR1
    generalize w1.setCell ⟨g, 13, none⟩ (Sl.enc ⟨some ⟨gb, 0, none⟩, h.E.length - 1, c3⟩) = W1 at *
    clear hsb hse hsc hk1
    have hk2 := (HKS1.out.mono (ts' := fun q => q = 2 ∨ q = 18 ∨ q % 32 = 19) (fun q hq => by omega)).trans ((Kp.outT W1 own k).mono (fun q hq => .inr (.inr hq)))
    have hb : Blk W1 g ({ s with e := ⟨some ⟨gb, 0, none⟩, h.E.length - 1, c3⟩ } : St).cells 61 := HBS1.out
    have he : PO u8K 5 22 18 19 W1 (outT own k) ⟨some ⟨gb, 0, none⟩, h.E.length - 1, c3⟩ (h.E.eraseIdx k) := po_out HOS1.out (fun i p hp => Ow.keep (HW.out.e.2 i p hp) HKS1.out (by (intro hq; first | omega | (dsimp only at hq; omega) | (dsimp only at hq; done))))
    have hpk := Ow.keep (HW.out.e.2 k p HP.out) HKS1.out (by (intro hq; first | omega | (dsimp only at hq; omega) | (dsimp only at hq; done)))
    have hg0 : Ow u8K 5 W1 (outT own k) 26 ⟨p.1.A, 0, p.1.c⟩ [] := Kd.R_mono (Kd.R_take (A := p.1.A) (n := p.1.n) (c := p.1.c) (m := 0) hpk (Nat.zero_le _)) (fun b hb => outT_at hb)
    clear hpk
    have hW := HW.out
    have hwi : WInv W1 g (outT own k) { s with e := ⟨some ⟨gb, 0, none⟩, h.E.length - 1, c3⟩ } { h with E := h.E.eraseIdx k } := by
     have hog : outT own k g = 2 := by
      unfold outT
      rw [hW.og]
      rfl
     constructor <;> (first | assumption | (have q := (Blk.keep (WInv.blk hW) hk2 (by rw [WInv.og hW]; (intro hq; first | omega | (dsimp only at hq; omega) | (dsimp only at hq; done)))).1; exact q) | (have q := (Blk.keep (WInv.blk hW) hk2 (by rw [WInv.og hW]; (intro hq; first | omega | (dsimp only at hq; omega) | (dsimp only at hq; done)))).2.trans (WInv.og hW); exact q) | (have q := PL.keep (WInv.l hW) hk2 (by (intro hq; first | omega | (dsimp only at hq; omega) | (dsimp only at hq; done))) (fun i => by (intro hq; first | omega | (dsimp only at hq; omega) | (dsimp only at hq; done))) (fun i => by (intro hq; first | omega | (dsimp only at hq; omega) | (dsimp only at hq; done))); exact q) | (have q := PO.keep (WInv.f0 hW) hk2 (by (intro hq; first | omega | (dsimp only at hq; omega) | (dsimp only at hq; done))) (fun i => by (intro hq; first | omega | (dsimp only at hq; omega) | (dsimp only at hq; done))); exact q) | (have q := PR.keep u8K_K (by decide) (WInv.f1 hW) hk2 (by (intro hq; first | omega | (dsimp only at hq; omega) | (dsimp only at hq; done))) (by (intro hq; first | omega | (dsimp only at hq; omega) | (dsimp only at hq; done))); exact q) | (have q := PO.keep (WInv.t0 hW) hk2 (by (intro hq; first | omega | (dsimp only at hq; omega) | (dsimp only at hq; done))) (fun i => by (intro hq; first | omega | (dsimp only at hq; omega) | (dsimp only at hq; done))); exact q) | (have q := PR.keep mcK_K (by decide) (WInv.t1 hW) hk2 (by (intro hq; first | omega | (dsimp only at hq; omega) | (dsimp only at hq; done))) (by (intro hq; first | omega | (dsimp only at hq; omega) | (dsimp only at hq; done))); exact q) | (have q := PO.keep (WInv.a0 hW) hk2 (by (intro hq; first | omega | (dsimp only at hq; omega) | (dsimp only at hq; done))) (fun i => by (intro hq; first | omega | (dsimp only at hq; omega) | (dsimp only at hq; done))); exact q) | (have q := PR.keep rcK_K (by decide) (WInv.a1 hW) hk2 (by (intro hq; first | omega | (dsimp only at hq; omega) | (dsimp only at hq; done))) (by (intro hq; first | omega | (dsimp only at hq; omega) | (dsimp only at hq; done))); exact q) | (have q := PR.keep u8K_K (by decide) (WInv.b hW) hk2 (by (intro hq; first | omega | (dsimp only at hq; omega) | (dsimp only at hq; done))) (by (intro hq; first | omega | (dsimp only at hq; omega) | (dsimp only at hq; done))); exact q) | (have q := PR.keep mcK_K (by decide) (WInv.m hW) hk2 (by (intro hq; first | omega | (dsimp only at hq; omega) | (dsimp only at hq; done))) (by (intro hq; first | omega | (dsimp only at hq; omega) | (dsimp only at hq; done))); exact q) | (have q := PR.keep rcK_K (by decide) (WInv.r hW) hk2 (by (intro hq; first | omega | (dsimp only at hq; omega) | (dsimp only at hq; done))) (by (intro hq; first | omega | (dsimp only at hq; omega) | (dsimp only at hq; done))); exact q) | (have q := Ow.keep (WInv.k0 hW) hk2 (by (intro hq; first | omega | (dsimp only at hq; omega) | (dsimp only at hq; done))); exact q) | (have q := Ow.keep (WInv.k1 hW) hk2 (by (intro hq; first | omega | (dsimp only at hq; omega) | (dsimp only at hq; done))); exact q) | (have q := Ow.keep (WInv.k2 hW) hk2 (by (intro hq; first | omega | (dsimp only at hq; omega) | (dsimp only at hq; done))); exact q) | (have q := PO.keep (WInv.e hW) hk2 (by (intro hq; first | omega | (dsimp only at hq; omega) | (dsimp only at hq; done))) (fun i => by (intro hq; first | omega | (dsimp only at hq; omega) | (dsimp only at hq; done))); exact q))
    have HS0 := Lib.hid (show LendSt w w own g { s with e := ⟨some ⟨gb, 0, none⟩, h.E.length - 1, c3⟩ } { h with E := h.E.eraseIdx k } W1 (outT own k) ⟨p.1.A, 0, p.1.c⟩ [] from ⟨hwi, hg0, hk2.mono (fun q hq => by omega)⟩)
    clear hk2 hb he hg0 hW hwi HP
    generalize outT own k = o0 at HS0
    have hD3 := (Rd.keep u8K_K (by decide) HD.out HS0.out.kp (by (intro hq; first | omega | (dsimp only at hq; omega) | (dsimp only at hq; done)))).1
    have HD3 := Lib.hid hD3
    clear hD3
    go_wp2_with (
     ((with_reducible refine gate_builtin (b := .append) (xs := #[.tmp 55, .tmp 56]) rfl ?_); at_builtin; refine Kd.R_append_rows u8K (Rr := u8K.K _) (w0 := W1) 0 rfl (.tmp 55) (.tmp 56) 22 5 (.int .u8 0) 1 rfl Try.underlying22 info5 rfl (by decide) (by decide) (Sl.mk p.1.A 0 p.1.c).enc [] xs D.A D.n D.c (fun k => tagged W1 o0 26 k = 26) (fun _ => False) rfl rfl (Ow.alloc HS0.out.ow (Below.refl _ _)) HD3.out (fun _ _ hh => hh) (fun _ hk => hk.elim) (fun q hq => tagged_new hq) (Below.refl 0 _) (Nat.zero_le _) ?hl ?_; (case hl => simp; omega); intro v1 w1 ho hb hg hat; obtain ⟨G1, rfl, ho', hk'⟩ := Ow.pushed HS0.out.ow (Below.refl _ _) ho hg; rw [List.nil_append] at ho'; have HS1 := Lib.hid (lend_push HS0.out ho' hk'); clear ho hb hg hat ho' hk'; generalize tagged W1 o0 26 = o1 at HS1; simp only [Sl.enc]))
    go_loopw [5, 7] (fun b i wr => ∃ (j : Nat) (o : Nat → Nat) (G : Sl), j ≤ 8 ∧ i = .int .i64 (j : Int) ∧ b = .slice G.A G.n G.c ∧ Hid (LendSt w w own g { s with e := ⟨some ⟨gb, 0, none⟩, h.E.length - 1, c3⟩ } { h with E := h.E.eraseIdx k } wr o G (xs ++ List.replicate j 252))) (fun _ i _ => 8 - (intOf i).toNat)
    case atStart => exact ⟨0, o1, G1, by omega, rfl, rfl, by simpa using HS1⟩
    case round =>
     clear HS1 HS0 HD3
     obtain ⟨j, o, G, hj, rfl, rfl, HS⟩ := hrel
     by_cases hlt : j < 8
     ·
      have dl : decide ((j : Int) < 8) = true := by simp; omega
      go_wp2_with (
       ((with_reducible refine gate_builtin (b := .append) (xs := #[.tmp 62, .tmp 63]) rfl ?_); at_builtin; refine Kd.R_append u8K (w0 := wr) 0 rfl (.tmp 62) (.tmp 63) 22 5 (.int .u8 0) 1 rfl Try.underlying22 info5 rfl (by decide) (by decide) G.enc (xs ++ List.replicate j 252) 252 [.int .u8 252] (fun k => tagged wr o 26 k = 26) (fun _ => False) rfl rfl rfl (fun _ hk => hk.elim) (fun q hq => tagged_new hq) (Ow.alloc HS.out.ow (Below.refl _ _)) (Below.refl 0 _) (Nat.zero_le _) ?hl ?_; (case hl => simp; omega); intro v1 w1 ho hb hg hat; obtain ⟨G1, rfl, ho', hk'⟩ := Ow.pushed HS.out.ow (Below.refl _ _) ho hg; have HS1 := Lib.hid (lend_push HS.out ho' hk'); clear ho hb hg hat ho' hk'; generalize tagged wr o 26 = o1 at HS1; simp only [Sl.enc]))
      refine ⟨⟨j + 1, o1, G1, by omega, by go_num, rfl, ?_⟩, by simp [intOf]; omega⟩
      have e9 : xs ++ List.replicate (j + 1) 252 = xs ++ List.replicate j 252 ++ [252] := by rw [List.replicate_succ', List.append_assoc]
      rw [e9]
      exact HS1
     ·
      obtain rfl : j = 8 := by omega
      have dl : decide (((8 : Nat) : Int) < 8) = false := by decide
      go_wp2_with fail
      go_ret
      exact ⟨o, G, h.E.eraseIdx k, ⟨some ⟨gb, 0, none⟩, h.E.length - 1, c3⟩, rfl, HS.out.inv, fun p hp => List.mem_of_mem_eraseIdx hp, List.length_eraseIdx_le _ _, HS.out.ow, HS.out.kp⟩
   ·
    have d2 : ((p.1.n : Int) == (D.n : Int) + 8) = false := by
     rw [beq_eq_false_iff_ne]; omega
    go_wp2_with fail
    refine ⟨⟨by simp, by simp, ?_⟩, by simp [intOf] <;> omega⟩
    by_cases h0 : k = 0
    ·
     left
     subst h0
     rfl
    ·
     right
     exact ⟨k - 1, by omega, by go_num⟩
end Go.Proofs.Ytpflenaoplblkaa.PaS
end
section
namespace Go.Proofs.Ytpflenaoplblkaa.PaT
open Go.RowKit YtpflenaoplblkaaW.PrintWords YtpflenaoplblkaaW.PrintLast ProA ProB ProC ProI ProD ProG ProJ ProK ProL ProM ProN ProO ProP ProQ ProR ProU ProZ ProBb PaA
open ProH (msgTab repTab ba)
open ProS PaI PaJ PaK PaL
open PaM PaN PaO PaP PaQ PaR PaS
set_option linter.unusedVariables false
set_option linter.unusedSimpArgs false
theorem Ow.put {α : Type} {enc : α → Value} {h1 : ∀ x, (enc x).oneCell' = true} {e : Nat} {w : World} {own : Nat → Nat} {t gb n c : Nat} {xs : List α} (h : Ow (Kd.scalar enc h1) e w own t ⟨some ⟨gb, 0, none⟩, n, c⟩ xs) (j : Nat) (x : α) :
  Ow (Kd.scalar enc h1) e (w.setCell ⟨gb, j, none⟩ (enc x)) own t ⟨some ⟨gb, 0, none⟩, n, c⟩ (xs.set j x) ∧ Kp (fun q => q = t) w own (w.setCell ⟨gb, j, none⟩ (enc x)) own := by
 obtain ⟨a, b⟩ := Kd.R_putg h (j : Int) x
 rw [Int.toNat_natCast] at a b
 exact ⟨a, b.os, b.tape, b.output, b.size, fun k hk hn => ⟨rfl, b.block k hk (fun e => hn (by injection e with e; rw [e]; exact (ow_blk h gb rfl).1))⟩⟩
theorem ow_cell {α : Type} {enc : α → Value} {h1 : ∀ x, (enc x).oneCell' = true} {e : Nat} {w : World} {own : Nat → Nat} {t gb n c : Nat} {xs : List α} (h : Ow (Kd.scalar enc h1) e w own t ⟨some ⟨gb, 0, none⟩, n, c⟩ xs) (j : Nat) (x : α) (hx : xs[j]? = some x) :
  w.cell? ⟨gb, j, none⟩ = some (enc x) ∧ w.frozen? ⟨gb, j, none⟩ = false ∧ gb < w.heap.size := by
 obtain ⟨l1, l2, l3⟩ := ow_len h
 have hj : j < n := by
  have h2 := (List.getElem?_eq_some_iff.1 hx).1
  simp at l1
  omega
 obtain ⟨ad, ha, hc⟩ := sc_at l3 j hj x hx
 injection ha with ha
 subst ha
 rw [add_plain] at hc
 refine ⟨hc, ?_, (ow_blk h gb rfl).2⟩
 obtain ⟨cells, hcc⟩ := Kd.R_typed h gb rfl
 simp [World.frozen?, hcc]
structure WhSt (w : World) (own : Nat → Nat) (gb n c : Nat) (ys : List Int) (wr : World) (j : Nat) : Prop where
 ow : Ow u8K 5 wr own 26 ⟨some ⟨gb, 0, none⟩, n, c⟩ (List.replicate j 251 ++ ys.drop j)
 kp : Kp (fun q => q = 26) w own wr own
theorem wh_get {ys : List Int} {j : Nat} (hj : j < ys.length) : (List.replicate j 251 ++ ys.drop j)[j]? = some ys[j] := by
 rw [List.getElem?_append_right (by simp)]
 simp [hj]
theorem wh_set {ys : List Int} {j : Nat} (hj : j < ys.length) : (List.replicate j 251 ++ ys.drop j).set j 251 = List.replicate (j + 1) 251 ++ ys.drop (j + 1) := by
 rw [List.set_append_right _ _ (by simp), List.length_replicate, Nat.sub_self, List.drop_eq_getElem_cons hj, List.set_cons_zero, List.replicate_succ', List.append_assoc]
 rfl
set_option maxHeartbeats 4000000 in
set_option maxRecDepth 100000 in
theorem whole_ok (w : World) (g tD : Nat) (own : Nat → Nat) (s : St) (h : Gh) (G D : Sl) (xs : List Int) (H : WInv w g own s h) (hm : Sm h) (hD : Rd u8K w own tD D xs) (ht : tD = 0 ∨ tD = 27) (hx : xs.length ≤ 100000000000) (hG : Ow u8K 5 w own 26 G (xs ++ List.replicate 8 252)) :
  Calls Try.prog 54 #[pt g, G.enc, D.enc] w fun e w' => e = .returned (.bool true) ∧ ∃ own' v, WInv w' g own' { s with e := v } { h with E := h.E ++ [(G, List.replicate (xs.length + 8) 251)] } ∧ Kp (fun q => q = 2 ∨ q = 18 ∨ q = 26) w own w' own' := by
 have hE := hm.E
 obtain ⟨A, n, c⟩ := D
 obtain rfl : xs.length = n := Kd_C_len hD.1
 obtain ⟨B, m, d⟩ := G
 obtain ⟨hg1, hg2, hg3⟩ := ow_len hG
 have hg1' : xs.length + 8 = m := by simpa using hg1
 subst hg1'
 obtain ⟨ad, rfl⟩ : ∃ ad, B = some ad := by
  obtain ⟨ad, c, e⟩ := Kd.R_slice1 hG (by simp)
  simp only [Sl.enc, Value.slice.injEq] at e
  exact ⟨ad, e.1⟩
 obtain ⟨gb, rfl⟩ := Kd.R_head hG
 have HW := Lib.hid H
 have HD := Lib.hid hD
 obtain ⟨ys, hys⟩ : ∃ ys, ys = xs ++ List.replicate 8 252 := ⟨_, rfl⟩
 rw [← hys] at hG hg1
 have hyl : ys.length = xs.length + 8 := by rw [hys]; simp
 have HYS := Lib.hid hys
 have HYL := Lib.hid hyl
 have HG := Lib.hid hG
 have HGD := Lib.hid hg2
 clear H hD hm hG hg3 hg1 hys hyl
 go_enter Try.func54, Try.ntmps54
 simp only [Sl.enc]
 go_wp2_with fail
 go_loopw [7, 8, 9] (fun b i u wr => ∃ (j : Nat), j ≤ xs.length + 8 ∧ i = .int .i64 (j : Int) ∧ b = .bool true ∧ Hid (WhSt w own gb (xs.length + 8) d ys wr j)) (fun _ i _ _ => xs.length + 8 - (intOf i).toNat)
 case atStart => exact ⟨0, by omega, rfl, rfl, Lib.hid ⟨by simpa using HG.out, Kp.refl _ _ _⟩⟩
 case round =>
  obtain ⟨j, hj, rfl, rfl, HS⟩ := hrel
  by_cases hlt : j < xs.length + 8
  ·
   have dl : decide ((j : Int) < ((xs.length + 8 : Nat) : Int)) = true := by simp; omega
   have hjy : j < ys.length := by rw [HYL.out]; exact hlt
   obtain ⟨f1, f2, f3⟩ := ow_cell HS.out.ow j ys[j] (wh_get hjy)
   have HNX := Lib.hid (Ow.put HS.out.ow j 251)
   by_cases hjx : j < xs.length
   ·
    have dx : decide ((j : Int) < (xs.length : Int)) = true := by simp; omega
    have hyj : ys[j] = xs[j] := by simp [HYS.out, List.getElem_append_left hjx]
    rw [hyj] at f1
    have hDr := Rd.keep u8K_K (by decide) HD.out HS.out.kp (by (intro hq; first | omega | (dsimp only at hq; omega) | (dsimp only at hq; done)))
    obtain ⟨ax, rfl, fx⟩ := sc_at hDr.1 j hjx xs[j] (List.getElem?_eq_getElem hjx)
    clear hDr hyj
    generalize xs[j] = z at f1 fx
    go_wp2_with fail
    refine ⟨⟨j + 1, by omega, by go_num, rfl, Lib.hid ⟨by rw [← wh_set hjy]; exact HNX.out.1, HS.out.kp.trans HNX.out.2⟩⟩, by simp [intOf]; omega⟩
   ·
    have dx : decide ((j : Int) < (xs.length : Int)) = false := by simp; omega
    have hyj : ys[j] = 252 := by
     have h9 : ys[j]? = some 252 := by rw [HYS.out, List.getElem?_append_right (by omega), List.getElem?_replicate, if_pos (by omega)]
     rw [List.getElem?_eq_getElem hjy] at h9
     exact Option.some.inj h9
    rw [hyj] at f1
    clear hyj
    go_wp2_with fail
    refine ⟨⟨j + 1, by omega, by go_num, rfl, Lib.hid ⟨by rw [← wh_set hjy]; exact HNX.out.1, HS.out.kp.trans HNX.out.2⟩⟩, by simp [intOf]; omega⟩
  ·
   obtain rfl : j = xs.length + 8 := by omega
   have dl : decide (((xs.length + 8 : Nat) : Int) < ((xs.length + 8 : Nat) : Int)) = false := by simp
   have hdr : ys.drop (xs.length + 8) = [] := by rw [List.drop_eq_nil_iff]; have := HYL.out; omega
   have hst := HS.out.ow
   rw [hdr, List.append_nil] at hst
   have hwi := HW.out.keep (HS.out.kp.mono (fun q hq => .inr (by omega)))
   obtain ⟨t', ht'⟩ : ∃ t', t' = 32 * h.E.length + 19 := ⟨_, rfl⟩
   have hkr := Kp.ret wr own 26 t'
   have HOW := Lib.hid (Ow.ret hst t')
   have HI := Lib.hid (hwi.keep (hkr.mono (fun q hq => by subst hq; exact .inr (by decide))))
   have HKR := Lib.hid (HS.out.kp.trans hkr)
   have HT := Lib.hid ht'
   clear hdr hst hwi hkr ht'
   generalize ret own 26 t' = o1 at HOW HI HKR
   have k13 : wr.cell? ⟨g, 13, none⟩ = some (.slice s.e.A s.e.n s.e.c) := Blk.cell (i := 13) HI.out.blk rfl
   go_wp2_with (
    ((with_reducible refine gate_builtin (b := .append) (xs := #[.tmp 40, .tmp 42]) rfl ?_); at_builtin; refine Kd.R_append slK (w0 := wr) 0 rfl (.tmp 40) (.tmp 42) 53 22 (.slice none 0 0) 24 rfl Try.underlying53 info22 rfl (by decide) (by decide) s.e.enc (h.E.map (·.1)) ⟨some ⟨gb, 0, none⟩, xs.length + 8, d⟩ [.slice (some ⟨gb, 0, none⟩) (xs.length + 8) d] (fun k => tagged wr o1 18 k = 18) (fun _ => False) rfl rfl rfl (fun _ hk => hk.elim) (fun q hq => tagged_new hq) (Ow.alloc HI.out.e.1 (Below.refl _ _)) (Below.refl 0 _) (Nat.zero_le _) ?hl ?_; (case hl => simp; omega); intro v1 w1 ho hb hg hat; obtain ⟨s1, rfl, ho', hk'⟩ := Ow.pushed HI.out.e.1 (Below.refl _ _) ho hg; have hbb := Blk.keep HI.out.blk hk' (by rw [HI.out.og]; decide); have HB1 := Lib.hid hbb.1; have HG1 := Lib.hid (hbb.2.trans HI.out.og); have c1 := Blk.cell (i := 13) hbb.1 rfl; have z1 := Blk.frozen (i := 13) hbb.1; have l1 := Blk.lt hbb.1; have HO1 := Lib.hid ho'; have HK1 := Lib.hid hk'; clear ho hb hg hat ho' hk' hbb; simp only [Sl.enc]))
   go_ret
   obtain ⟨hb', hk', ho'⟩ := push_end 13 HB1.out HK1.out HO1.out HI.out.og (by decide)
   have hog := HG1.out
   have hW := HI.out
   have hk2 := hk'.mono (ts' := fun q => q = 2 ∨ q = 18 ∨ q = 26) (fun q hq => by omega)
   have hb : Blk (w1.setCell ⟨g, 13, none⟩ s1.enc) g ({ s with e := s1 } : St).cells 61 := hb'
   have he : PO u8K 5 22 18 19 (w1.setCell ⟨g, 13, none⟩ s1.enc) (tagged wr o1 18) s1 (h.E ++ [(⟨some ⟨gb, 0, none⟩, xs.length + 8, d⟩, List.replicate (xs.length + 8) 251)]) := PO.snoc ho' (fun i p hp => Ow.keep (HI.out.e.2 i p hp) hk' (by (intro hq; first | omega | (dsimp only at hq; omega) | (dsimp only at hq; done)))) (by rw [← HT.out]; exact Ow.keep HOW.out hk' (by have := HT.out; (intro hq; first | omega | (dsimp only at hq; omega) | (dsimp only at hq; done))))
   refine ⟨rfl, tagged wr o1 18, s1, ?_, ((HKR.out.mono (fun q hq => .inr (.inr hq)))).trans hk2⟩
   constructor <;> (first | assumption | (have q := (Blk.keep (WInv.blk hW) hk2 (by rw [WInv.og hW]; (intro hq; first | omega | (dsimp only at hq; omega) | (dsimp only at hq; done)))).1; exact q) | (have q := (Blk.keep (WInv.blk hW) hk2 (by rw [WInv.og hW]; (intro hq; first | omega | (dsimp only at hq; omega) | (dsimp only at hq; done)))).2.trans (WInv.og hW); exact q) | (have q := PL.keep (WInv.l hW) hk2 (by (intro hq; first | omega | (dsimp only at hq; omega) | (dsimp only at hq; done))) (fun i => by (intro hq; first | omega | (dsimp only at hq; omega) | (dsimp only at hq; done))) (fun i => by (intro hq; first | omega | (dsimp only at hq; omega) | (dsimp only at hq; done))); exact q) | (have q := PO.keep (WInv.f0 hW) hk2 (by (intro hq; first | omega | (dsimp only at hq; omega) | (dsimp only at hq; done))) (fun i => by (intro hq; first | omega | (dsimp only at hq; omega) | (dsimp only at hq; done))); exact q) | (have q := PR.keep u8K_K (by decide) (WInv.f1 hW) hk2 (by (intro hq; first | omega | (dsimp only at hq; omega) | (dsimp only at hq; done))) (by (intro hq; first | omega | (dsimp only at hq; omega) | (dsimp only at hq; done))); exact q) | (have q := PO.keep (WInv.t0 hW) hk2 (by (intro hq; first | omega | (dsimp only at hq; omega) | (dsimp only at hq; done))) (fun i => by (intro hq; first | omega | (dsimp only at hq; omega) | (dsimp only at hq; done))); exact q) | (have q := PR.keep mcK_K (by decide) (WInv.t1 hW) hk2 (by (intro hq; first | omega | (dsimp only at hq; omega) | (dsimp only at hq; done))) (by (intro hq; first | omega | (dsimp only at hq; omega) | (dsimp only at hq; done))); exact q) | (have q := PO.keep (WInv.a0 hW) hk2 (by (intro hq; first | omega | (dsimp only at hq; omega) | (dsimp only at hq; done))) (fun i => by (intro hq; first | omega | (dsimp only at hq; omega) | (dsimp only at hq; done))); exact q) | (have q := PR.keep rcK_K (by decide) (WInv.a1 hW) hk2 (by (intro hq; first | omega | (dsimp only at hq; omega) | (dsimp only at hq; done))) (by (intro hq; first | omega | (dsimp only at hq; omega) | (dsimp only at hq; done))); exact q) | (have q := PR.keep u8K_K (by decide) (WInv.b hW) hk2 (by (intro hq; first | omega | (dsimp only at hq; omega) | (dsimp only at hq; done))) (by (intro hq; first | omega | (dsimp only at hq; omega) | (dsimp only at hq; done))); exact q) | (have q := PR.keep mcK_K (by decide) (WInv.m hW) hk2 (by (intro hq; first | omega | (dsimp only at hq; omega) | (dsimp only at hq; done))) (by (intro hq; first | omega | (dsimp only at hq; omega) | (dsimp only at hq; done))); exact q) | (have q := PR.keep rcK_K (by decide) (WInv.r hW) hk2 (by (intro hq; first | omega | (dsimp only at hq; omega) | (dsimp only at hq; done))) (by (intro hq; first | omega | (dsimp only at hq; omega) | (dsimp only at hq; done))); exact q) | (have q := Ow.keep (WInv.k0 hW) hk2 (by (intro hq; first | omega | (dsimp only at hq; omega) | (dsimp only at hq; done))); exact q) | (have q := Ow.keep (WInv.k1 hW) hk2 (by (intro hq; first | omega | (dsimp only at hq; omega) | (dsimp only at hq; done))); exact q) | (have q := Ow.keep (WInv.k2 hW) hk2 (by (intro hq; first | omega | (dsimp only at hq; omega) | (dsimp only at hq; done))); exact q) | (have q := PO.keep (WInv.e hW) hk2 (by (intro hq; first | omega | (dsimp only at hq; omega) | (dsimp only at hq; done))) (fun i => by (intro hq; first | omega | (dsimp only at hq; omega) | (dsimp only at hq; done))); exact q))
end Go.Proofs.Ytpflenaoplblkaa.PaT
end
