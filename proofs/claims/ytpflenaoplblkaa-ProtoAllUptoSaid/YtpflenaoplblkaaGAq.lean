import Derived.Test.YtpflenaoplblkaaGAp
section
namespace Go.Proofs.Ytpflenaoplblkaa.PaX
open Go.RowKit YtpflenaoplblkaaW.PrintWords YtpflenaoplblkaaW.PrintLast ProA ProB ProC ProI ProD ProG ProJ ProK ProL ProM ProN ProO ProP ProQ ProR ProU ProZ ProBb PaA
open ProH (msgTab repTab ba)
open ProS PaI PaJ PaK PaL
open PaM PaN PaO PaP PaQ PaR PaS PaT PaU PaV PaWa PaW PaXa
set_option linter.unusedVariables false
set_option linter.unusedSimpArgs false
theorem ow_head {α : Type} {d : Kd α} {e : Nat} {w : World} {own : Nat → Nat} {t : Nat} {z : Sl} {xs : List α} (h : Ow d e w own t z xs) (hn : 0 < z.n) : ∃ gb, z = ⟨some ⟨gb, 0, none⟩, z.n, z.c⟩ := by
 obtain ⟨A, n, c⟩ := z
 obtain ⟨l1, l2, l3⟩ := ow_len h
 obtain ⟨ad, ha, _⟩ := l3.2.2 hn
 have ha' : A = some ad := ha
 subst ha'
 obtain ⟨gb, rfl⟩ := Kd.R_head h
 exact ⟨gb, rfl⟩
def SetR (w0 : World) (own : Nat → Nat) (gf g : Nat) (s : St) (h : Gh) (a0 a1 a2 : Int) (wr : World) (o : Nat → Nat) (F : List (Sl × List Int)) (T : List (Sl × List MC)) (A : List (Sl × List RC)) : Prop :=
  Blk wr gf #[.int .i64 a0, .int .i64 a1, .int .i64 a2] 83 ∧ o gf = 24 ∧ Kp big w0 own wr o ∧ WInv wr g o s { h with F := F, T := T, A := A }
theorem SetR.keep {w0 wr w1 : World} {own o o1 : Nat → Nat} {gf g : Nat} {s : St} {h : Gh} {a0 a1 a2 : Int} {F : List (Sl × List Int)} {T : List (Sl × List MC)} {A : List (Sl × List RC)} (H : SetR w0 own gf g s h a0 a1 a2 wr o F T A) (hk : Kp (fun _ => False) wr o w1 o1) : SetR w0 own gf g s h a0 a1 a2 w1 o1 F T A := by
 obtain ⟨h1, h2, h3, h4⟩ := H
 exact ⟨(Blk.keep h1 hk (fun h => h)).1, (Blk.keep h1 hk (fun h => h)).2.trans h2, h3.trans (hk.mono (fun q hq => hq.elim)), h4.keep (hk.mono (fun q hq => hq.elim))⟩
theorem SetR.putF {w0 wr w1 : World} {own o : Nat → Nat} {gf g j : Nat} {s : St} {h : Gh} {a0 a1 a2 : Int} {F : List (Sl × List Int)} {T : List (Sl × List MC)} {A : List (Sl × List RC)} {p : Sl × List Int} {ys : List Int} (H : SetR w0 own gf g s h a0 a1 a2 wr o F T A) (hp : F[j]? = some p) (hk : Kp (fun q => q = 32 * j + 4) wr o w1 o) (ho : Ow u8K 5 w1 o (32 * j + 4) p.1 ys) : SetR w0 own gf g s h a0 a1 a2 w1 o (F.set j (p.1, ys)) T A := by
 obtain ⟨h1, h2, h3, h4⟩ := H
 refine ⟨(Blk.keep h1 hk (by rw [h2]; omega)).1, h2, h3.trans (hk.mono (fun q hq => by unfold big; omega)), ?_⟩
 have hf : PO u8K 5 22 3 4 w1 o s.f0 (F.set j (p.1, ys)) := PO.set h4.f0 hp hk (fun i => by omega) ho
 constructor <;> (first | assumption | (have q := (Blk.keep (WInv.blk h4) hk (by rw [WInv.og h4]; (intro hq; first | omega | (dsimp only at hq; omega) | (dsimp only at hq; done)))).1; exact q) | (have q := (Blk.keep (WInv.blk h4) hk (by rw [WInv.og h4]; (intro hq; first | omega | (dsimp only at hq; omega) | (dsimp only at hq; done)))).2.trans (WInv.og h4); exact q) | (have q := PL.keep (WInv.l h4) hk (by (intro hq; first | omega | (dsimp only at hq; omega) | (dsimp only at hq; done))) (fun i => by (intro hq; first | omega | (dsimp only at hq; omega) | (dsimp only at hq; done))) (fun i => by (intro hq; first | omega | (dsimp only at hq; omega) | (dsimp only at hq; done))); exact q) | (have q := PO.keep (WInv.f0 h4) hk (by (intro hq; first | omega | (dsimp only at hq; omega) | (dsimp only at hq; done))) (fun i => by (intro hq; first | omega | (dsimp only at hq; omega) | (dsimp only at hq; done))); exact q) | (have q := PR.keep u8K_K (by decide) (WInv.f1 h4) hk (by (intro hq; first | omega | (dsimp only at hq; omega) | (dsimp only at hq; done))) (by (intro hq; first | omega | (dsimp only at hq; omega) | (dsimp only at hq; done))); exact q) | (have q := PO.keep (WInv.t0 h4) hk (by (intro hq; first | omega | (dsimp only at hq; omega) | (dsimp only at hq; done))) (fun i => by (intro hq; first | omega | (dsimp only at hq; omega) | (dsimp only at hq; done))); exact q) | (have q := PR.keep mcK_K (by decide) (WInv.t1 h4) hk (by (intro hq; first | omega | (dsimp only at hq; omega) | (dsimp only at hq; done))) (by (intro hq; first | omega | (dsimp only at hq; omega) | (dsimp only at hq; done))); exact q) | (have q := PO.keep (WInv.a0 h4) hk (by (intro hq; first | omega | (dsimp only at hq; omega) | (dsimp only at hq; done))) (fun i => by (intro hq; first | omega | (dsimp only at hq; omega) | (dsimp only at hq; done))); exact q) | (have q := PR.keep rcK_K (by decide) (WInv.a1 h4) hk (by (intro hq; first | omega | (dsimp only at hq; omega) | (dsimp only at hq; done))) (by (intro hq; first | omega | (dsimp only at hq; omega) | (dsimp only at hq; done))); exact q) | (have q := PR.keep u8K_K (by decide) (WInv.b h4) hk (by (intro hq; first | omega | (dsimp only at hq; omega) | (dsimp only at hq; done))) (by (intro hq; first | omega | (dsimp only at hq; omega) | (dsimp only at hq; done))); exact q) | (have q := PR.keep mcK_K (by decide) (WInv.m h4) hk (by (intro hq; first | omega | (dsimp only at hq; omega) | (dsimp only at hq; done))) (by (intro hq; first | omega | (dsimp only at hq; omega) | (dsimp only at hq; done))); exact q) | (have q := PR.keep rcK_K (by decide) (WInv.r h4) hk (by (intro hq; first | omega | (dsimp only at hq; omega) | (dsimp only at hq; done))) (by (intro hq; first | omega | (dsimp only at hq; omega) | (dsimp only at hq; done))); exact q) | (have q := Ow.keep (WInv.k0 h4) hk (by (intro hq; first | omega | (dsimp only at hq; omega) | (dsimp only at hq; done))); exact q) | (have q := Ow.keep (WInv.k1 h4) hk (by (intro hq; first | omega | (dsimp only at hq; omega) | (dsimp only at hq; done))); exact q) | (have q := Ow.keep (WInv.k2 h4) hk (by (intro hq; first | omega | (dsimp only at hq; omega) | (dsimp only at hq; done))); exact q) | (have q := PO.keep (WInv.e h4) hk (by (intro hq; first | omega | (dsimp only at hq; omega) | (dsimp only at hq; done))) (fun i => by (intro hq; first | omega | (dsimp only at hq; omega) | (dsimp only at hq; done))); exact q))
theorem SetR.putT {w0 wr w1 : World} {own o : Nat → Nat} {gf g j : Nat} {s : St} {h : Gh} {a0 a1 a2 : Int} {F : List (Sl × List Int)} {T : List (Sl × List MC)} {A : List (Sl × List RC)} {p : Sl × List MC} {ys : List MC} (H : SetR w0 own gf g s h a0 a1 a2 wr o F T A) (hp : T[j]? = some p) (hk : Kp (fun q => q = 32 * j + 7) wr o w1 o) (ho : Ow mcK 35 w1 o (32 * j + 7) p.1 ys) : SetR w0 own gf g s h a0 a1 a2 w1 o F (T.set j (p.1, ys)) A := by
 obtain ⟨h1, h2, h3, h4⟩ := H
 refine ⟨(Blk.keep h1 hk (by rw [h2]; omega)).1, h2, h3.trans (hk.mono (fun q hq => by unfold big; omega)), ?_⟩
 have hf : PO mcK 35 27 6 7 w1 o s.t0 (T.set j (p.1, ys)) := PO.set h4.t0 hp hk (fun i => by omega) ho
 constructor <;> (first | assumption | (have q := (Blk.keep (WInv.blk h4) hk (by rw [WInv.og h4]; (intro hq; first | omega | (dsimp only at hq; omega) | (dsimp only at hq; done)))).1; exact q) | (have q := (Blk.keep (WInv.blk h4) hk (by rw [WInv.og h4]; (intro hq; first | omega | (dsimp only at hq; omega) | (dsimp only at hq; done)))).2.trans (WInv.og h4); exact q) | (have q := PL.keep (WInv.l h4) hk (by (intro hq; first | omega | (dsimp only at hq; omega) | (dsimp only at hq; done))) (fun i => by (intro hq; first | omega | (dsimp only at hq; omega) | (dsimp only at hq; done))) (fun i => by (intro hq; first | omega | (dsimp only at hq; omega) | (dsimp only at hq; done))); exact q) | (have q := PO.keep (WInv.f0 h4) hk (by (intro hq; first | omega | (dsimp only at hq; omega) | (dsimp only at hq; done))) (fun i => by (intro hq; first | omega | (dsimp only at hq; omega) | (dsimp only at hq; done))); exact q) | (have q := PR.keep u8K_K (by decide) (WInv.f1 h4) hk (by (intro hq; first | omega | (dsimp only at hq; omega) | (dsimp only at hq; done))) (by (intro hq; first | omega | (dsimp only at hq; omega) | (dsimp only at hq; done))); exact q) | (have q := PO.keep (WInv.t0 h4) hk (by (intro hq; first | omega | (dsimp only at hq; omega) | (dsimp only at hq; done))) (fun i => by (intro hq; first | omega | (dsimp only at hq; omega) | (dsimp only at hq; done))); exact q) | (have q := PR.keep mcK_K (by decide) (WInv.t1 h4) hk (by (intro hq; first | omega | (dsimp only at hq; omega) | (dsimp only at hq; done))) (by (intro hq; first | omega | (dsimp only at hq; omega) | (dsimp only at hq; done))); exact q) | (have q := PO.keep (WInv.a0 h4) hk (by (intro hq; first | omega | (dsimp only at hq; omega) | (dsimp only at hq; done))) (fun i => by (intro hq; first | omega | (dsimp only at hq; omega) | (dsimp only at hq; done))); exact q) | (have q := PR.keep rcK_K (by decide) (WInv.a1 h4) hk (by (intro hq; first | omega | (dsimp only at hq; omega) | (dsimp only at hq; done))) (by (intro hq; first | omega | (dsimp only at hq; omega) | (dsimp only at hq; done))); exact q) | (have q := PR.keep u8K_K (by decide) (WInv.b h4) hk (by (intro hq; first | omega | (dsimp only at hq; omega) | (dsimp only at hq; done))) (by (intro hq; first | omega | (dsimp only at hq; omega) | (dsimp only at hq; done))); exact q) | (have q := PR.keep mcK_K (by decide) (WInv.m h4) hk (by (intro hq; first | omega | (dsimp only at hq; omega) | (dsimp only at hq; done))) (by (intro hq; first | omega | (dsimp only at hq; omega) | (dsimp only at hq; done))); exact q) | (have q := PR.keep rcK_K (by decide) (WInv.r h4) hk (by (intro hq; first | omega | (dsimp only at hq; omega) | (dsimp only at hq; done))) (by (intro hq; first | omega | (dsimp only at hq; omega) | (dsimp only at hq; done))); exact q) | (have q := Ow.keep (WInv.k0 h4) hk (by (intro hq; first | omega | (dsimp only at hq; omega) | (dsimp only at hq; done))); exact q) | (have q := Ow.keep (WInv.k1 h4) hk (by (intro hq; first | omega | (dsimp only at hq; omega) | (dsimp only at hq; done))); exact q) | (have q := Ow.keep (WInv.k2 h4) hk (by (intro hq; first | omega | (dsimp only at hq; omega) | (dsimp only at hq; done))); exact q) | (have q := PO.keep (WInv.e h4) hk (by (intro hq; first | omega | (dsimp only at hq; omega) | (dsimp only at hq; done))) (fun i => by (intro hq; first | omega | (dsimp only at hq; omega) | (dsimp only at hq; done))); exact q))
theorem SetR.putA {w0 wr w1 : World} {own o : Nat → Nat} {gf g j : Nat} {s : St} {h : Gh} {a0 a1 a2 : Int} {F : List (Sl × List Int)} {T : List (Sl × List MC)} {A : List (Sl × List RC)} {p : Sl × List RC} {ys : List RC} (H : SetR w0 own gf g s h a0 a1 a2 wr o F T A) (hp : A[j]? = some p) (hk : Kp (fun q => q = 32 * j + 10) wr o w1 o) (ho : Ow rcK 44 w1 o (32 * j + 10) p.1 ys) : SetR w0 own gf g s h a0 a1 a2 w1 o F T (A.set j (p.1, ys)) := by
 obtain ⟨h1, h2, h3, h4⟩ := H
 refine ⟨(Blk.keep h1 hk (by rw [h2]; omega)).1, h2, h3.trans (hk.mono (fun q hq => by unfold big; omega)), ?_⟩
 have hf : PO rcK 44 41 9 10 w1 o s.a0 (A.set j (p.1, ys)) := PO.set h4.a0 hp hk (fun i => by omega) ho
 constructor <;> (first | assumption | (have q := (Blk.keep (WInv.blk h4) hk (by rw [WInv.og h4]; (intro hq; first | omega | (dsimp only at hq; omega) | (dsimp only at hq; done)))).1; exact q) | (have q := (Blk.keep (WInv.blk h4) hk (by rw [WInv.og h4]; (intro hq; first | omega | (dsimp only at hq; omega) | (dsimp only at hq; done)))).2.trans (WInv.og h4); exact q) | (have q := PL.keep (WInv.l h4) hk (by (intro hq; first | omega | (dsimp only at hq; omega) | (dsimp only at hq; done))) (fun i => by (intro hq; first | omega | (dsimp only at hq; omega) | (dsimp only at hq; done))) (fun i => by (intro hq; first | omega | (dsimp only at hq; omega) | (dsimp only at hq; done))); exact q) | (have q := PO.keep (WInv.f0 h4) hk (by (intro hq; first | omega | (dsimp only at hq; omega) | (dsimp only at hq; done))) (fun i => by (intro hq; first | omega | (dsimp only at hq; omega) | (dsimp only at hq; done))); exact q) | (have q := PR.keep u8K_K (by decide) (WInv.f1 h4) hk (by (intro hq; first | omega | (dsimp only at hq; omega) | (dsimp only at hq; done))) (by (intro hq; first | omega | (dsimp only at hq; omega) | (dsimp only at hq; done))); exact q) | (have q := PO.keep (WInv.t0 h4) hk (by (intro hq; first | omega | (dsimp only at hq; omega) | (dsimp only at hq; done))) (fun i => by (intro hq; first | omega | (dsimp only at hq; omega) | (dsimp only at hq; done))); exact q) | (have q := PR.keep mcK_K (by decide) (WInv.t1 h4) hk (by (intro hq; first | omega | (dsimp only at hq; omega) | (dsimp only at hq; done))) (by (intro hq; first | omega | (dsimp only at hq; omega) | (dsimp only at hq; done))); exact q) | (have q := PO.keep (WInv.a0 h4) hk (by (intro hq; first | omega | (dsimp only at hq; omega) | (dsimp only at hq; done))) (fun i => by (intro hq; first | omega | (dsimp only at hq; omega) | (dsimp only at hq; done))); exact q) | (have q := PR.keep rcK_K (by decide) (WInv.a1 h4) hk (by (intro hq; first | omega | (dsimp only at hq; omega) | (dsimp only at hq; done))) (by (intro hq; first | omega | (dsimp only at hq; omega) | (dsimp only at hq; done))); exact q) | (have q := PR.keep u8K_K (by decide) (WInv.b h4) hk (by (intro hq; first | omega | (dsimp only at hq; omega) | (dsimp only at hq; done))) (by (intro hq; first | omega | (dsimp only at hq; omega) | (dsimp only at hq; done))); exact q) | (have q := PR.keep mcK_K (by decide) (WInv.m h4) hk (by (intro hq; first | omega | (dsimp only at hq; omega) | (dsimp only at hq; done))) (by (intro hq; first | omega | (dsimp only at hq; omega) | (dsimp only at hq; done))); exact q) | (have q := PR.keep rcK_K (by decide) (WInv.r h4) hk (by (intro hq; first | omega | (dsimp only at hq; omega) | (dsimp only at hq; done))) (by (intro hq; first | omega | (dsimp only at hq; omega) | (dsimp only at hq; done))); exact q) | (have q := Ow.keep (WInv.k0 h4) hk (by (intro hq; first | omega | (dsimp only at hq; omega) | (dsimp only at hq; done))); exact q) | (have q := Ow.keep (WInv.k1 h4) hk (by (intro hq; first | omega | (dsimp only at hq; omega) | (dsimp only at hq; done))); exact q) | (have q := Ow.keep (WInv.k2 h4) hk (by (intro hq; first | omega | (dsimp only at hq; omega) | (dsimp only at hq; done))); exact q) | (have q := PO.keep (WInv.e h4) hk (by (intro hq; first | omega | (dsimp only at hq; omega) | (dsimp only at hq; done))) (fun i => by (intro hq; first | omega | (dsimp only at hq; omega) | (dsimp only at hq; done))); exact q))
def Settled (w : World) (own : Nat → Nat) (g : Nat) (h : Gh) (w' : World) : Prop :=
  ∃ o s' h', WInv w' g o s' h' ∧ Lk h' ∧ (h'.F = [] ∧ h'.C = [] ∧ h'.T = [] ∧ h'.U = [] ∧ h'.A = [] ∧ h'.V = []) ∧ h'.L = h.L ∧ h'.E = h.E ∧ (h'.B.length = h.B.length + 4 * h.F.length ∧ h'.M.length = h.M.length + 4 * h.T.length ∧ h'.R.length = h.R.length + 4 * h.A.length) ∧ ((∀ p ∈ h'.B, p.2.length ≤ 2000000000000) ∧ (∀ p ∈ h'.M, p.2.length ≤ 2000000000000) ∧ (∀ p ∈ h'.R, p.2.length ≤ 2000000000000)) ∧ Kp big w own w' o
theorem Wr.n_le {α : Type} {X : Int → Nat → List α} {F F' : List (Sl × List α)} {m : Nat → Int} {j B : Nat} (h : Wr X F F' m j) (hB : ∀ p ∈ F, p.1.n ≤ B) {i : Nat} {p : Sl × List α} (hp : F'[i]? = some p) : p.1.n ≤ B := by
 have h1 : p.1 ∈ F.map (·.1) := by rw [← h.sl]; exact List.mem_map.2 ⟨p, List.mem_of_getElem? hp, rfl⟩
 obtain ⟨q, hq, he⟩ := List.mem_map.1 h1
 rw [← he]
 exact hB q hq
set_option maxHeartbeats 4000000 in
set_option maxRecDepth 100000 in
theorem settle_ok (w : World) (g : Nat) (own : Nat → Nat) (s : St) (h : Gh) (H : WInv w g own s h) (hS : Same w h) (hm : Sm h) (hL : Lk h) (hBl : h.B.length + 4 * h.F.length ≤ 5000000000000) (hMl : h.M.length + 4 * h.T.length ≤ 5000000000000) (hRl : h.R.length + 4 * h.A.length ≤ 5000000000000) :
  Calls Try.prog 21 #[pt g] w fun e w' => e = .returned (.bool true) ∧ Settled w own g h w' := by
 have hK0 : h.K0.length ≤ 5000000000000 := by have := hL.b; omega
 have hK1 : h.K1.length ≤ 5000000000000 := by have := hL.m; omega
 have hK2 : h.K2.length ≤ 5000000000000 := by have := hL.r; omega
 have hFl := hm.F
 have hTl := hm.T
 have hAl := hm.A
 have HW0 := Lib.hid H
 have HS := Lib.hid hS
 have HM := Lib.hid hm
 have HL := Lib.hid hL
 clear H hS hm hL
 go_enter Try.func21, Try.ntmps21
 go_wp2_with (go_at_call 37; refine Calls.mono (stays_ok w g own s h HW0.out HS.out HM.out) ?_; rintro e w2 ⟨rfl, hb2⟩)
 have hkA := Kp.below (ts := fun _ => False) (own := own) hb2 24
 have HW := Lib.hid (HW0.out.keep (hkA.mono (fun q hq => hq.elim)))
 have HKA := Lib.hid hkA
 clear hkA hb2
 generalize tagged w own 24 = oa at HW HKA
 obtain ⟨A10, c10, hc10, k10, _⟩ := row_any (i := 10) HW.out.blk rfl HW.out.k0
 obtain ⟨A11, c11, hc11, k11, _⟩ := row_any (i := 11) HW.out.blk rfl HW.out.k1
 obtain ⟨A12, c12, hc12, k12, _⟩ := row_any (i := 12) HW.out.blk rfl HW.out.k2
 have e1 : IntKind.i64.wrap (-2 - (h.K1.length : Int)) = -2 - (h.K1.length : Int) := IntWalk.i64_in _ (by omega)
 have e2 : IntKind.i64.wrap (-2 - (h.K2.length : Int)) = -2 - (h.K2.length : Int) := IntWalk.i64_in _ (by omega)
 refine start_ (n := 23) (S := fun w' => w'.cell? ⟨g, 10, none⟩ = some (.slice A10 h.K0.length c10) ∧ w'.cell? ⟨g, 11, none⟩ = some (.slice A11 h.K1.length c11) ∧ w'.cell? ⟨g, 12, none⟩ = some (.slice A12 h.K2.length c12)) (ds := [22]) #[false, false, false, false, false, false, false, false, false, false, false, false, false, false, false, false, false, false, false, false, false, false, false] (by kernel_rfl) rfl rfl ⟨k10, k11, k12⟩ (fun hHeld => ?_)
 refine pu_ (i := 0) (N := some 15) (v := ?_) (a' := ?_) rfl rfl (by kernel_rfl) (fun _ _ _ h => h) (by rfl) ?_ ?_ ?_
 rotate_left
 · (intro w'; go_simp; with_reducible rfl)
 rotate_left
 · (simp only [put_s, List.set, i64_w, i32_w]; rfl)
 refine pu_ (i := 1) (N := some 16) (v := ?_) (a' := ?_) rfl rfl (by kernel_rfl) (fun _ _ _ h => h) (by rfl) ?_ ?_ ?_
 rotate_left
 · (intro w'; go_simp; with_reducible rfl)
 rotate_left
 · (simp only [put_s, List.set, i64_w, i32_w]; rfl)
 refine pu_ (i := 2) (N := some 17) (v := ?_) (a' := ?_) rfl rfl (by kernel_rfl) (fun _ _ _ h => h) (by rfl) ?_ ?_ ?_
 rotate_left
 · (intro w'; go_simp; with_reducible rfl)
 rotate_left
 · (simp only [put_s, List.set, i64_w, i32_w]; rfl)
 refine pu_ (i := 3) (N := some 18) (v := ?_) (a' := ?_) rfl rfl (by kernel_rfl) (fun _ _ _ h => h) (by rfl) ?_ ?_ ?_
 rotate_left
 · (intro w'; go_simp; with_reducible rfl)
 rotate_left
 · (simp only [put_s, List.set, i64_w, i32_w]; rfl)
 refine tk_ (i := 4) (N := some 19) (v := ?_) (a' := ?_) rfl rfl (by kernel_rfl) (fun _ _ _ h => h) (by rfl) ?_ hHeld ?_ ?_
 rotate_left
 · (intro w' s0; go_simp; with_reducible rfl)
 rotate_left
 · (simp only [put_s, List.set, i64_w, i32_w]; rfl)
 refine pu_ (i := 5) (N := some 20) (v := ?_) (a' := ?_) rfl rfl (by kernel_rfl) (fun _ _ _ h => h) (by rfl) ?_ ?_ ?_
 rotate_left
 · (intro w'; go_simp; with_reducible rfl)
 rotate_left
 · (simp only [put_s, List.set, i64_w, i32_w]; rfl)
 refine pu_ (i := 6) (N := some 21) (v := ?_) (a' := ?_) rfl rfl (by kernel_rfl) (fun _ _ _ h => h) (by rfl) ?_ ?_ ?_
 rotate_left
 · (intro w'; go_simp; with_reducible rfl)
 rotate_left
 · (simp only [put_s, List.set, i64_w, i32_w]; rfl)
 refine pu_ (i := 7) (N := some 22) (v := ?_) (a' := ?_) rfl rfl (by kernel_rfl) (fun _ _ _ h => h) (by rfl) ?_ ?_ ?_
 rotate_left
 · (intro w'; go_simp; with_reducible rfl)
 rotate_left
 · (simp only [put_s, List.set, i64_w, i32_w]; rfl)
 refine pu_ (i := 8) (N := some 23) (v := ?_) (a' := ?_) rfl rfl (by kernel_rfl) (fun _ _ _ h => h) (by rfl) ?_ ?_ ?_
 rotate_left
 · (intro w'; go_simp; with_reducible rfl)
 rotate_left
 · (simp only [put_s, List.set, i64_w, i32_w]; rfl)
 refine pu_ (i := 9) (N := some 24) (v := ?_) (a' := ?_) rfl rfl (by kernel_rfl) (fun _ _ _ h => h) (by rfl) ?_ ?_ ?_
 rotate_left
 · (intro w'; go_simp; with_reducible rfl)
 rotate_left
 · (simp only [put_s, List.set, i64_w, i32_w]; rfl)
 refine tk_ (i := 10) (N := some 25) (v := ?_) (a' := ?_) rfl rfl (by kernel_rfl) (fun _ _ _ h => h) (by rfl) ?_ hHeld ?_ ?_
 rotate_left
 · (intro w' s0; go_simp; with_reducible rfl)
 rotate_left
 · (simp only [put_s, List.set, i64_w, i32_w]; rfl)
 refine pu_ (i := 11) (N := some 26) (v := ?_) (a' := ?_) rfl rfl (by kernel_rfl) (fun _ _ _ h => h) (by rfl) ?_ ?_ ?_
 rotate_left
 · (intro w'; go_simp; with_reducible rfl)
 rotate_left
 · (simp only [put_s, List.set, i64_w, i32_w]; rfl)
 refine pu_ (i := 12) (N := some 27) (v := ?_) (a' := ?_) rfl rfl (by kernel_rfl) (fun _ _ _ h => h) (by rfl) ?_ ?_ ?_
 rotate_left
 · (intro w'; go_simp; with_reducible rfl)
 rotate_left
 · (simp only [put_s, List.set, i64_w, i32_w]; rfl)
 refine pu_ (i := 13) (N := some 28) (v := ?_) (a' := ?_) rfl rfl (by kernel_rfl) (fun _ _ _ h => h) (by rfl) ?_ ?_ ?_
 rotate_left
 · (intro w'; go_simp; with_reducible rfl)
 rotate_left
 · (simp only [put_s, List.set, i64_w, i32_w]; rfl)
 refine pu_ (i := 14) (N := some 29) (v := ?_) (a' := ?_) rfl rfl (by kernel_rfl) (fun _ _ _ h => h) (by rfl) ?_ ?_ ?_
 rotate_left
 · (intro w'; go_simp; with_reducible rfl)
 rotate_left
 · (simp only [put_s, List.set, i64_w, i32_w]; rfl)
 refine pu_ (i := 15) (N := some 30) (v := ?_) (a' := ?_) rfl rfl (by kernel_rfl) (fun _ _ _ h => h) (by rfl) ?_ ?_ ?_
 rotate_left
 · (intro w'; go_simp; with_reducible rfl)
 rotate_left
 · (simp only [put_s, List.set, i64_w, i32_w]; rfl)
 refine pu_ (i := 16) (N := some 31) (v := ?_) (a' := ?_) rfl rfl (by kernel_rfl) (fun _ _ _ h => h) (by rfl) ?_ ?_ ?_
 rotate_left
 · (intro w'; go_simp; with_reducible rfl)
 rotate_left
 · (simp only [put_s, List.set, i64_w, i32_w]; rfl)
 refine tk_ (i := 17) (N := some 32) (v := ?_) (a' := ?_) rfl rfl (by kernel_rfl) (fun _ _ _ h => h) (by rfl) ?_ hHeld ?_ ?_
 rotate_left
 · (intro w' s0; go_simp; with_reducible rfl)
 rotate_left
 · (simp only [put_s, List.set, i64_w, i32_w]; rfl)
 refine pu_ (i := 18) (N := some 33) (v := ?_) (a' := ?_) rfl rfl (by kernel_rfl) (fun _ _ _ h => h) (by rfl) ?_ ?_ ?_
 rotate_left
 · (intro w'; go_simp; with_reducible rfl)
 rotate_left
 · (simp only [put_s, List.set, i64_w, i32_w]; rfl)
 refine pu_ (i := 19) (N := some 34) (v := ?_) (a' := ?_) rfl rfl (by kernel_rfl) (fun _ _ _ h => h) (by rfl) ?_ ?_ ?_
 rotate_left
 · (intro w'; go_simp; with_reducible rfl)
 rotate_left
 · (simp only [put_s, List.set, i64_w, i32_w]; rfl)
 refine pu_ (i := 20) (N := some 35) (v := ?_) (a' := ?_) rfl rfl (by kernel_rfl) (fun _ _ _ h => h) (by rfl) ?_ ?_ ?_
 rotate_left
 · (intro w'; go_simp; with_reducible rfl)
 rotate_left
 · (simp only [put_s, List.set, i64_w, i32_w]; rfl)
 refine on_ (i := 21) (N := some 4) rfl rfl (by kernel_rfl) (by decide) (fun K hK => ?_)
 refine value_ (v := .pointer (some ⟨w2.drew.heap.size, 0, none⟩)) (w1 := w2.drew.alloc (.cells #[.int .i64 0, .int .i64 0, .int .i64 0] 83)) (by rfl) rfl (by go_simp) ?_
 refine hK.out _ _ ⟨(World.cell?_alloc_lt _ _ _ (World.block_lt_of_cell? _ _ hHeld.1)).trans hHeld.1, (World.cell?_alloc_lt _ _ _ (World.block_lt_of_cell? _ _ hHeld.2.1)).trans hHeld.2.1, (World.cell?_alloc_lt _ _ _ (World.block_lt_of_cell? _ _ hHeld.2.2)).trans hHeld.2.2⟩ (fun hHeld => ?_)
 clear hK K
 refine norm_ (a' := ?_) ?_ ?_
 rotate_left
 ·
  show Act.put _ (some 4) _ = _
  simp only [put_s, List.set, i64_w, i32_w]
  rfl
 refine la_ (i := 22) (N := none) rfl rfl (by kernel_rfl) (by decide) (fun K hK => ?_)
 refine skip_ (w1 := w2.drew.alloc (.cells #[.int .i64 (h.K0.length : Int), .int .i64 (-2 - (h.K1.length : Int)), .int .i64 (-2 - (h.K2.length : Int))] 83)) (by rfl) rfl (by go_simp) ?_
 refine hK.out _ _ ?_
 clear hK K
 refine done_ (by kernel_rfl) ?_
 clear k10 k11 k12 e1 e2 hHeld
 go_wp2_with fail
 obtain ⟨a0, ha0⟩ : ∃ a0 : Int, a0 = (h.K0.length : Int) := ⟨_, rfl⟩
 obtain ⟨a1, ha1⟩ : ∃ a1 : Int, a1 = -2 - (h.K1.length : Int) := ⟨_, rfl⟩
 obtain ⟨a2, ha2⟩ : ∃ a2 : Int, a2 = -2 - (h.K2.length : Int) := ⟨_, rfl⟩
 simp only [← ha0, ← ha1, ← ha2]
 have b0 : 0 ≤ a0 ∧ a0 ≤ 5000000000000 := by omega
 have b1 : -5000000000002 ≤ a1 ∧ a1 ≤ 0 := by omega
 have b2 : -5000000000002 ≤ a2 ∧ a2 ≤ 0 := by omega
 clear ha0 ha1 ha2
 obtain ⟨gf, hgf⟩ : ∃ gf, gf = w2.drew.heap.size := ⟨_, rfl⟩
 have hk24 := Kp.below (ts := fun _ => False) (own := oa) (Below.alloc (Below.drew (Below.refl w2.heap.size w2)) (Nat.le_refl _) (.cells #[.int .i64 a0, .int .i64 a1, .int .i64 a2] 83)) 24
 have HR : SetR w own gf g s h a0 a1 a2 (w2.drew.alloc (.cells #[.int .i64 a0, .int .i64 a1, .int .i64 a2] 83)) (tagged w2 oa 24) h.F h.T h.A := ⟨by rw [hgf]; exact blkNew rfl, by rw [hgf]; exact tagged_new (Nat.le_refl _), (HKA.out.mono (fun q hq => hq.elim)).trans (hk24.mono (fun q hq => hq.elim)), HW.out.keep (hk24.mono (fun q hq => hq.elim))⟩
 have HFN := Lib.hid (show ∀ p ∈ h.F, p.1.n ≤ 1000000000000 from fun p hp => by obtain ⟨i, hi⟩ := List.getElem?_of_mem hp; rw [← (ow_len (HW.out.f0.2 i p hi)).1]; exact HM.out.fx p hp)
 have HTN := Lib.hid (show ∀ p ∈ h.T, p.1.n ≤ 1000000000000 from fun p hp => by obtain ⟨i, hi⟩ := List.getElem?_of_mem hp; rw [← (ow_len (HW.out.t0.2 i p hi)).1]; exact HM.out.tx p hp)
 have HAN := Lib.hid (show ∀ p ∈ h.A, p.1.n ≤ 1000000000000 from fun p hp => by obtain ⟨i, hi⟩ := List.getElem?_of_mem hp; rw [← (ow_len (HW.out.a0.2 i p hi)).1]; exact HM.out.ax p hp)
 clear hk24 HKA HW HS
 simp only [← hgf]
 clear hgf
 generalize w2.drew.alloc (.cells #[.int .i64 a0, .int .i64 a1, .int .i64 a2] 83) = W4 at HR ⊢
 generalize tagged w2 oa 24 = o4 at HR
 go_loopw [5, 6] (fun i _k wr => ∃ (j : Nat) (o : Nat → Nat) (Fq : List (Sl × List Int)), j ≤ h.F.length ∧ i = .int .i64 (j : Int) ∧ SetR w own gf g s h a0 a1 a2 wr o Fq h.T h.A ∧ Wr digs h.F Fq (fun i => a0 + 4 * (i : Int)) j) (fun i _ _ => h.F.length - (intOf i).toNat)
 case atStart => exact ⟨0, _, h.F, by omega, rfl, HR, Wr.zero _ _ _⟩
 case round =>
  clear HR
  obtain ⟨j, o, Fq, hj, rfl, HR, HWR⟩ := hrel
  obtain ⟨A1, c1, hc1, k1, hl1⟩ := row_at (i := 1) HR.2.2.2.blk rfl HR.2.2.2.f0.1
  rw [List.length_map] at hc1 k1 hl1
  dsimp only at hc1 k1 hl1
  rw [HWR.len] at hc1 k1 hl1
  by_cases hlt : j < h.F.length
  ·
   have dl : decide ((j : Int) < (h.F.length : Int)) = true := by simp; omega
   obtain ⟨p, hp⟩ : ∃ p, Fq[j]? = some p := ⟨Fq[j]'(by rw [HWR.len]; exact hlt), List.getElem?_eq_getElem _⟩
   have hpn := Wr.n_le HWR HFN.out hp
   obtain ⟨l, xs⟩ := p
   dsimp only at hpn
   have HP := Lib.hid hp
   clear hp hl1
   go_wp2_with fail
   clear k1 hc1
   go_loopw [6] (fun k wr => ∃ (t : Nat) (o : Nat → Nat) (Fq : List (Sl × List Int)) (xs : List Int), t ≤ l.n ∧ k = .int .i64 (t : Int) ∧ SetR w own gf g s h a0 a1 a2 wr o Fq h.T h.A ∧ Wr digs h.F Fq (fun i => a0 + 4 * (i : Int)) j ∧ Hid (Fq[j]? = some (l, xs) ∧ xs.take t = digs (a0 + 4 * (j : Int)) t)) (fun k _ => l.n - (intOf k).toNat)
   case atStart => exact ⟨0, o, Fq, xs, by omega, rfl, HR, HWR, Lib.hid ⟨HP.out, rfl⟩⟩
   case round =>
    clear HR HWR HP
    obtain ⟨t, o, Fq, xs, ht, rfl, HR, HWR, HP⟩ := hrel
    obtain ⟨A1, c1, hc1, k1, hl1⟩ := row_at (i := 1) HR.2.2.2.blk rfl HR.2.2.2.f0.1
    rw [List.length_map] at hc1 k1 hl1
    dsimp only at hc1 k1 hl1
    rw [HWR.len] at hc1 k1 hl1
    obtain ⟨ad, rfl, e1⟩ := sl_at hl1 j hlt l (by rw [List.getElem?_map, HP.out.1]; rfl)
    simp only [Sl.enc] at e1
    have k0 : wr.cell? ⟨gf, 0, none⟩ = some (.int .i64 a0) := Blk.cell (i := 0) HR.1 rfl
    clear hl1
    by_cases htl : t < l.n
    ·
     have dt : decide ((t : Int) < (l.n : Int)) = true := by simp; omega
     have hti : (t : Int) < (l.n : Int) := by omega
     have hji : (j : Int) < (h.F.length : Int) := by omega
     have HO := HR.2.2.2.f0.2 j _ HP.out.1
     dsimp only at HO
     obtain ⟨gb, hz⟩ := ow_head HO (Nat.lt_of_le_of_lt (Nat.zero_le _) htl)
     obtain ⟨lA, ln, lc⟩ := l
     simp only [Sl.mk.injEq, and_true, true_and] at hz
     subst hz
     dsimp only at *
     have hxl : xs.length = ln := (ow_len HO).1
     have hlc : ln ≤ lc := (ow_len HO).2.1
     obtain ⟨x9, hx9⟩ : ∃ x9, xs[t]? = some x9 := ⟨xs[t]'(by rw [hxl]; exact htl), List.getElem?_eq_getElem _⟩
     have HX9 := Lib.hid hx9
     clear hx9
     have HXL := Lib.hid hxl
     have HOW := Lib.hid HO
     clear HO hxl
     have s1 : IntKind.i64.wrap (4 * (j : Int)) = 4 * (j : Int) := IntWalk.i64_in _ (by omega)
     have s2 : IntKind.i64.wrap (a0 + 4 * (j : Int)) = a0 + 4 * (j : Int) := IntWalk.i64_in _ (by omega)
     go_wp2_with fail
     refine start_ (n := 18) (S := fun w' => w'.cell? ⟨g, 1, none⟩ = some (.slice (some ad) h.F.length c1) ∧ w'.cell? (ad.add j) = some (.slice (some ⟨gb, 0, none⟩) ln lc) ∧ w'.cell? ⟨gf, 0, none⟩ = some (.int .i64 a0)) (ds := [17]) #[false, false, false, false, false, false, false, false, false, false, false, false, false, false, false, false, false, false] (by kernel_rfl) rfl rfl ⟨k1, e1, k0⟩ (fun hHeld => ?_)
     refine pu_ (i := 0) (N := some 59) (v := ?_) (a' := ?_) rfl rfl (by kernel_rfl) (fun _ _ _ h => h) (by rfl) ?_ ?_ ?_
     rotate_left
     · (intro w'; go_simp; with_reducible rfl)
     rotate_left
     · (simp only [put_s, List.set, i64_w, i32_w]; rfl)
     refine pu_ (i := 1) (N := some 60) (v := ?_) (a' := ?_) rfl rfl (by kernel_rfl) (fun _ _ _ h => h) (by rfl) ?_ ?_ ?_
     rotate_left
     · (intro w'; go_simp; with_reducible rfl)
     rotate_left
     · (simp only [put_s, List.set, i64_w, i32_w]; rfl)
     refine pu_ (i := 2) (N := some 61) (v := ?_) (a' := ?_) rfl rfl (by kernel_rfl) (fun _ _ _ h => h) (by rfl) ?_ ?_ ?_
     rotate_left
     · (intro w'; go_simp; with_reducible rfl)
     rotate_left
     · (simp only [put_s, List.set, i64_w, i32_w]; rfl)
     refine pu_ (i := 3) (N := some 62) (v := ?_) (a' := ?_) rfl rfl (by kernel_rfl) (fun _ _ _ h => h) (by rfl) ?_ ?_ ?_
     rotate_left
     · (intro w'; go_simp; with_reducible rfl)
     rotate_left
     · (simp only [put_s, List.set, i64_w, i32_w]; rfl)
     refine tk_ (i := 4) (N := some 63) (v := ?_) (a' := ?_) rfl rfl (by kernel_rfl) (fun _ _ _ h => h) (by rfl) ?_ hHeld ?_ ?_
     rotate_left
     · (intro w' s0; go_simp; with_reducible rfl)
     rotate_left
     · (simp only [put_s, List.set, i64_w, i32_w]; rfl)
     refine pu_ (i := 5) (N := some 64) (v := ?_) (a' := ?_) rfl rfl (by kernel_rfl) (fun _ _ _ h => h) (by rfl) ?_ ?_ ?_
     rotate_left
     · (intro w'; go_simp; with_reducible rfl)
     rotate_left
     · (simp only [put_s, List.set, i64_w, i32_w]; rfl)
     refine pu_ (i := 6) (N := some 65) (v := ?_) (a' := ?_) rfl rfl (by kernel_rfl) (fun _ _ _ h => h) (by rfl) ?_ ?_ ?_
     rotate_left
     · (intro w'; go_simp; with_reducible rfl)
     rotate_left
     · (simp only [put_s, List.set, i64_w, i32_w]; rfl)
     refine tk_ (i := 7) (N := some 66) (v := ?_) (a' := ?_) rfl rfl (by kernel_rfl) (fun _ _ _ h => h) (by rfl) ?_ hHeld ?_ ?_
     rotate_left
     · (intro w' s0; go_simp; with_reducible rfl)
     rotate_left
     · (simp only [put_s, List.set, i64_w, i32_w]; rfl)
     refine pu_ (i := 8) (N := some 67) (v := ?_) (a' := ?_) rfl rfl (by kernel_rfl) (fun _ _ _ h => h) (by rfl) ?_ ?_ ?_
     rotate_left
     · (intro w'; go_simp; with_reducible rfl)
     rotate_left
     · (simp only [put_s, List.set, i64_w, i32_w]; rfl)
     refine pu_ (i := 9) (N := some 68) (v := ?_) (a' := ?_) rfl rfl (by kernel_rfl) (fun _ _ _ h => h) (by rfl) ?_ ?_ ?_
     rotate_left
     · (intro w'; go_simp; with_reducible rfl)
     rotate_left
     · (simp only [put_s, List.set, i64_w, i32_w]; rfl)
     refine tk_ (i := 10) (N := some 69) (v := ?_) (a' := ?_) rfl rfl (by kernel_rfl) (fun _ _ _ h => h) (by rfl) ?_ hHeld ?_ ?_
     rotate_left
     · (intro w' s0; go_simp; with_reducible rfl)
     rotate_left
     · (simp only [put_s, List.set, i64_w, i32_w]; rfl)
     refine pu_ (i := 11) (N := some 70) (v := ?_) (a' := ?_) rfl rfl (by kernel_rfl) (fun _ _ _ h => h) (by rfl) ?_ ?_ ?_
     rotate_left
     · (intro w'; go_simp; with_reducible rfl)
     rotate_left
     · (simp only [put_s, List.set, i64_w, i32_w]; rfl)
     refine pu_ (i := 12) (N := some 71) (v := ?_) (a' := ?_) rfl rfl (by kernel_rfl) (fun _ _ _ h => h) (by rfl) ?_ ?_ ?_
     rotate_left
     · (intro w'; go_simp; with_reducible rfl)
     rotate_left
     · (simp only [put_s, List.set, i64_w, i32_w]; rfl)
     refine pu_ (i := 13) (N := some 72) (v := ?_) (a' := ?_) rfl rfl (by kernel_rfl) (fun _ _ _ h => h) (by rfl) ?_ ?_ ?_
     rotate_left
     · (intro w'; go_simp; with_reducible rfl)
     rotate_left
     · (simp only [put_s, List.set, i64_w, i32_w]; rfl)
     refine pu_ (i := 14) (N := some 73) (v := ?_) (a' := ?_) rfl rfl (by kernel_rfl) (fun _ _ _ h => h) (by rfl) ?_ ?_ ?_
     rotate_left
     · (intro w'; go_simp; with_reducible rfl)
     rotate_left
     · (simp only [put_s, List.set, i64_w, i32_w]; rfl)
     refine on_ (i := 15) (N := some 74) rfl rfl (by kernel_rfl) (by decide) (fun K hK => ?_)
     refine goes_ Try.func38 (by kernel_rfl) rfl #[.int .i64 (a0 + 4 * (j : Int)), .int .i64 (t : Int)] (by rfl) rfl rfl (by simp [Act.eval]) ?_
     refine Calls.mono (digit_ok (a0 + 4 * (j : Int)) (t : Int) _ (by omega)) ?_
     rintro e w3 ⟨rfl, hb2⟩
     have HKD := Lib.hid (Kp.below (ts := fun _ => False) (own := o) ((Below.drew (Below.refl wr.heap.size wr)).trans hb2) 24)
     have HR3 := HR.keep HKD.out
     have HO3 := HR3.2.2.2.f0.2 j _ HP.out.1
     dsimp only at HO3
     obtain ⟨f1, f2, f3⟩ := ow_cell HO3 t x9 HX9.out
     have HO4 := Lib.hid HO3
     refine ⟨_, rfl, ?_⟩
     refine hK.out _ _ ⟨Kp.cellOf (own := o) hb2 hHeld.1, Kp.cellOf (own := o) hb2 hHeld.2.1, Kp.cellOf (own := o) hb2 hHeld.2.2⟩ (fun hHeld => ?_)
     clear hK K HO3 hb2
     refine norm_ (a' := ?_) ?_ ?_
     rotate_left
     ·
      show Act.put _ (some 74) _ = _
      simp only [put_s, List.set, i64_w, i32_w]
      rfl
     refine pu_ (i := 16) (N := some 75) (v := ?_) (a' := ?_) rfl rfl (by kernel_rfl) (fun _ _ _ h => h) (by rfl) ?_ ?_ ?_
     rotate_left
     · (intro w'; go_simp; with_reducible rfl)
     rotate_left
     · (simp only [put_s, List.set, i64_w, i32_w]; rfl)
     refine la_ (i := 17) (N := none) rfl rfl (by kernel_rfl) (by decide) (fun K hK => ?_)
     refine skip_ (w1 := w3.setCell ⟨gb, t, none⟩ (.int .u8 (dig (a0 + 4 * (j : Int)) (t : Int)))) (by rfl) rfl (by go_simp) ?_
     refine hK.out _ _ ?_
     clear hK K
     refine done_ (by kernel_rfl) ?_
     go_wp2_with fail
     have HPUT := Ow.put HO4.out t (dig (a0 + 4 * (j : Int)) (t : Int))
     refine ⟨⟨t + 1, _, Fq.set j (⟨some ⟨gb, 0, none⟩, ln, lc⟩, xs.set t (dig (a0 + 4 * (j : Int)) (t : Int))), xs.set t (dig (a0 + 4 * (j : Int)) (t : Int)), by omega, by go_num, HR3.putF HP.out.1 HPUT.2 HPUT.1, HWR.set HP.out.1 _, Lib.hid ⟨List.getElem?_set_self (List.getElem?_eq_some_iff.1 HP.out.1).1, by rw [take_set_succ (by rw [HXL.out]; exact htl), HP.out.2, digs_succ]⟩⟩, by simp [intOf]; omega⟩
    ·
     obtain rfl : t = l.n := by omega
     have dt : decide (((l.n : Nat) : Int) < (l.n : Int)) = false := by simp
     go_wp2_with fail
     exact ⟨⟨j + 1, o, Fq, by omega, by go_num, HR, HWR.succ HP.out.1 (by have h8 := HP.out.2; rw [List.take_of_length_le (by have h9 := (ow_len (HR.2.2.2.f0.2 j _ HP.out.1)).1; dsimp only at h9; omega)] at h8; exact h8)⟩, by simp [intOf]; omega⟩
  ·
   obtain rfl : j = h.F.length := by omega
   have dl : decide (((h.F.length : Nat) : Int) < (h.F.length : Int)) = false := by simp
   clear hl1
   go_wp2_with fail
   clear k1 dl hc1
   have HWF := HWR
   clear HWR
   obtain ⟨F1, rfl⟩ : ∃ F1, F1 = Fq := ⟨_, rfl⟩
   go_loopw [7, 8] (fun i _k wr => ∃ (j : Nat) (o : Nat → Nat) (Fq : List (Sl × List MC)), j ≤ h.T.length ∧ i = .int .i64 (j : Int) ∧ SetR w own gf g s h a0 a1 a2 wr o F1 Fq h.A ∧ Wr (fun m n => List.replicate n (mkM m)) h.T Fq (fun i => a1 - 4 * (i : Int)) j) (fun i _ _ => h.T.length - (intOf i).toNat)
   case atStart => exact ⟨0, _, h.T, by omega, rfl, HR, Wr.zero _ _ _⟩
   case round =>
    clear HR
    obtain ⟨j, o, Fq, hj, rfl, HR, HWR⟩ := hrel
    obtain ⟨A1, c1, hc1, k1, hl1⟩ := row_at (i := 3) HR.2.2.2.blk rfl HR.2.2.2.t0.1
    rw [List.length_map] at hc1 k1 hl1
    dsimp only at hc1 k1 hl1
    rw [HWR.len] at hc1 k1 hl1
    by_cases hlt : j < h.T.length
    ·
     have dl : decide ((j : Int) < (h.T.length : Int)) = true := by simp; omega
     obtain ⟨p, hp⟩ : ∃ p, Fq[j]? = some p := ⟨Fq[j]'(by rw [HWR.len]; exact hlt), List.getElem?_eq_getElem _⟩
     have hpn := Wr.n_le HWR HTN.out hp
     obtain ⟨l, xs⟩ := p
     dsimp only at hpn
     have HP := Lib.hid hp
     clear hp hl1
     go_wp2_with fail
     clear k1 hc1
     go_loopw [8] (fun k wr => ∃ (t : Nat) (o : Nat → Nat) (Fq : List (Sl × List MC)) (xs : List MC), t ≤ l.n ∧ k = .int .i64 (t : Int) ∧ SetR w own gf g s h a0 a1 a2 wr o F1 Fq h.A ∧ Wr (fun m n => List.replicate n (mkM m)) h.T Fq (fun i => a1 - 4 * (i : Int)) j ∧ Hid (Fq[j]? = some (l, xs) ∧ xs.take t = (fun m n => List.replicate n (mkM m)) (a1 - 4 * (j : Int)) t)) (fun k _ => l.n - (intOf k).toNat)
     case atStart => exact ⟨0, o, Fq, xs, by omega, rfl, HR, HWR, Lib.hid ⟨HP.out, rfl⟩⟩
     case round =>
      clear HR HWR HP
      obtain ⟨t, o, Fq, xs, ht, rfl, HR, HWR, HP⟩ := hrel
      obtain ⟨A1, c1, hc1, k1, hl1⟩ := row_at (i := 3) HR.2.2.2.blk rfl HR.2.2.2.t0.1
      rw [List.length_map] at hc1 k1 hl1
      dsimp only at hc1 k1 hl1
      rw [HWR.len] at hc1 k1 hl1
      obtain ⟨ad, rfl, e1⟩ := sl_at hl1 j hlt l (by rw [List.getElem?_map, HP.out.1]; rfl)
      simp only [Sl.enc] at e1
      have k0 : wr.cell? ⟨gf, 1, none⟩ = some (.int .i64 a1) := Blk.cell (i := 1) HR.1 rfl
      clear hl1
      by_cases htl : t < l.n
      ·
       have dt : decide ((t : Int) < (l.n : Int)) = true := by simp; omega
       have hti : (t : Int) < (l.n : Int) := by omega
       have hji : (j : Int) < (h.T.length : Int) := by omega
       have HO := HR.2.2.2.t0.2 j _ HP.out.1
       dsimp only at HO
       obtain ⟨gb, hz⟩ := ow_head HO (Nat.lt_of_le_of_lt (Nat.zero_le _) htl)
       obtain ⟨lA, ln, lc⟩ := l
       simp only [Sl.mk.injEq, and_true, true_and] at hz
       subst hz
       dsimp only at *
       have hxl : xs.length = ln := (ow_len HO).1
       have hlc : ln ≤ lc := (ow_len HO).2.1
       obtain ⟨x9, hx9⟩ : ∃ x9, xs[t]? = some x9 := ⟨xs[t]'(by rw [hxl]; exact htl), List.getElem?_eq_getElem _⟩
       have HX9 := Lib.hid hx9
       clear hx9
       have HXL := Lib.hid hxl
       have HOW := Lib.hid HO
       clear HO hxl
       have s1 : IntKind.i64.wrap (4 * (j : Int)) = 4 * (j : Int) := IntWalk.i64_in _ (by omega)
       have s2 : IntKind.i64.wrap (a1 - 4 * (j : Int)) = a1 - 4 * (j : Int) := IntWalk.i64_in _ (by omega)
       go_wp2_with fail
       refine start_ (n := 22) (S := fun w' => w'.cell? ⟨g, 3, none⟩ = some (.slice (some ad) h.T.length c1) ∧ w'.cell? (ad.add j) = some (.slice (some ⟨gb, 0, none⟩) ln lc) ∧ w'.cell? ⟨gf, 1, none⟩ = some (.int .i64 a1)) (ds := [21]) #[false, false, false, false, false, false, false, false, false, false, false, false, false, false, false, false, false, false, false, false, false, false] (by kernel_rfl) rfl rfl ⟨k1, e1, k0⟩ (fun hHeld => ?_)
       refine pu_ (i := 0) (N := some 99) (v := ?_) (a' := ?_) rfl rfl (by kernel_rfl) (fun _ _ _ h => h) (by rfl) ?_ ?_ ?_
       rotate_left
       · (intro w'; go_simp; with_reducible rfl)
       rotate_left
       · (simp only [put_s, List.set, i64_w, i32_w]; rfl)
       refine pu_ (i := 1) (N := some 100) (v := ?_) (a' := ?_) rfl rfl (by kernel_rfl) (fun _ _ _ h => h) (by rfl) ?_ ?_ ?_
       rotate_left
       · (intro w'; go_simp; with_reducible rfl)
       rotate_left
       · (simp only [put_s, List.set, i64_w, i32_w]; rfl)
       refine pu_ (i := 2) (N := some 101) (v := ?_) (a' := ?_) rfl rfl (by kernel_rfl) (fun _ _ _ h => h) (by rfl) ?_ ?_ ?_
       rotate_left
       · (intro w'; go_simp; with_reducible rfl)
       rotate_left
       · (simp only [put_s, List.set, i64_w, i32_w]; rfl)
       refine pu_ (i := 3) (N := some 102) (v := ?_) (a' := ?_) rfl rfl (by kernel_rfl) (fun _ _ _ h => h) (by rfl) ?_ ?_ ?_
       rotate_left
       · (intro w'; go_simp; with_reducible rfl)
       rotate_left
       · (simp only [put_s, List.set, i64_w, i32_w]; rfl)
       refine tk_ (i := 4) (N := some 103) (v := ?_) (a' := ?_) rfl rfl (by kernel_rfl) (fun _ _ _ h => h) (by rfl) ?_ hHeld ?_ ?_
       rotate_left
       · (intro w' s0; go_simp; with_reducible rfl)
       rotate_left
       · (simp only [put_s, List.set, i64_w, i32_w]; rfl)
       refine pu_ (i := 5) (N := some 104) (v := ?_) (a' := ?_) rfl rfl (by kernel_rfl) (fun _ _ _ h => h) (by rfl) ?_ ?_ ?_
       rotate_left
       · (intro w'; go_simp; with_reducible rfl)
       rotate_left
       · (simp only [put_s, List.set, i64_w, i32_w]; rfl)
       refine pu_ (i := 6) (N := some 105) (v := ?_) (a' := ?_) rfl rfl (by kernel_rfl) (fun _ _ _ h => h) (by rfl) ?_ ?_ ?_
       rotate_left
       · (intro w'; go_simp; with_reducible rfl)
       rotate_left
       · (simp only [put_s, List.set, i64_w, i32_w]; rfl)
       refine tk_ (i := 7) (N := some 106) (v := ?_) (a' := ?_) rfl rfl (by kernel_rfl) (fun _ _ _ h => h) (by rfl) ?_ hHeld ?_ ?_
       rotate_left
       · (intro w' s0; go_simp; with_reducible rfl)
       rotate_left
       · (simp only [put_s, List.set, i64_w, i32_w]; rfl)
       refine pu_ (i := 8) (N := some 107) (v := ?_) (a' := ?_) rfl rfl (by kernel_rfl) (fun _ _ _ h => h) (by rfl) ?_ ?_ ?_
       rotate_left
       · (intro w'; go_simp; with_reducible rfl)
       rotate_left
       · (simp only [put_s, List.set, i64_w, i32_w]; rfl)
       refine pu_ (i := 9) (N := some 108) (v := ?_) (a' := ?_) rfl rfl (by kernel_rfl) (fun _ _ _ h => h) (by rfl) ?_ ?_ ?_
       rotate_left
       · (intro w'; go_simp; with_reducible rfl)
       rotate_left
       · (simp only [put_s, List.set, i64_w, i32_w]; rfl)
       refine tk_ (i := 10) (N := some 109) (v := ?_) (a' := ?_) rfl rfl (by kernel_rfl) (fun _ _ _ h => h) (by rfl) ?_ hHeld ?_ ?_
       rotate_left
       · (intro w' s0; go_simp; with_reducible rfl)
       rotate_left
       · (simp only [put_s, List.set, i64_w, i32_w]; rfl)
       refine pu_ (i := 11) (N := some 110) (v := ?_) (a' := ?_) rfl rfl (by kernel_rfl) (fun _ _ _ h => h) (by rfl) ?_ ?_ ?_
       rotate_left
       · (intro w'; go_simp; with_reducible rfl)
       rotate_left
       · (simp only [put_s, List.set, i64_w, i32_w]; rfl)
       refine pu_ (i := 12) (N := some 111) (v := ?_) (a' := ?_) rfl rfl (by kernel_rfl) (fun _ _ _ h => h) (by rfl) ?_ ?_ ?_
       rotate_left
       · (intro w'; go_simp; with_reducible rfl)
       rotate_left
       · (simp only [put_s, List.set, i64_w, i32_w]; rfl)
       refine pu_ (i := 13) (N := some 112) (v := ?_) (a' := ?_) rfl rfl (by kernel_rfl) (fun _ _ _ h => h) (by rfl) ?_ ?_ ?_
       rotate_left
       · (intro w'; go_simp; with_reducible rfl)
       rotate_left
       · (simp only [put_s, List.set, i64_w, i32_w]; rfl)
       refine pu_ (i := 14) (N := some 113) (v := ?_) (a' := ?_) rfl rfl (by kernel_rfl) (fun _ _ _ h => h) (by rfl) ?_ ?_ ?_
       rotate_left
       · (intro w'; go_simp; with_reducible rfl)
       rotate_left
       · (simp only [put_s, List.set, i64_w, i32_w]; rfl)
       refine tk_ (i := 15) (N := some 114) (v := ?_) (a' := ?_) rfl rfl (by kernel_rfl) (fun _ _ _ h => h) (by rfl) ?_ hHeld ?_ ?_
       rotate_left
       · (intro w' s0; go_simp; with_reducible rfl)
       rotate_left
       · (simp only [put_s, List.set, i64_w, i32_w]; rfl)
       refine pu_ (i := 16) (N := some 115) (v := ?_) (a' := ?_) rfl rfl (by kernel_rfl) (fun _ _ _ h => h) (by rfl) ?_ ?_ ?_
       rotate_left
       · (intro w'; go_simp; with_reducible rfl)
       rotate_left
       · (simp only [put_s, List.set, i64_w, i32_w]; rfl)
       refine pu_ (i := 17) (N := some 116) (v := ?_) (a' := ?_) rfl rfl (by kernel_rfl) (fun _ _ _ h => h) (by rfl) ?_ ?_ ?_
       rotate_left
       · (intro w'; go_simp; with_reducible rfl)
       rotate_left
       · (simp only [put_s, List.set, i64_w, i32_w]; rfl)
       refine pu_ (i := 18) (N := some 117) (v := ?_) (a' := ?_) rfl rfl (by kernel_rfl) (fun _ _ _ h => h) (by rfl) ?_ ?_ ?_
       rotate_left
       · (intro w'; go_simp; with_reducible rfl)
       rotate_left
       · (simp only [put_s, List.set, i64_w, i32_w]; rfl)
       refine pu_ (i := 19) (N := some 118) (v := ?_) (a' := ?_) rfl rfl (by kernel_rfl) (fun _ _ _ h => h) (by rfl) ?_ ?_ ?_
       rotate_left
       · (intro w'; go_simp; with_reducible rfl)
       rotate_left
       · (simp only [put_s, List.set, i64_w, i32_w]; rfl)
       refine pu_ (i := 20) (N := some 119) (v := ?_) (a' := ?_) rfl rfl (by kernel_rfl) (fun _ _ _ h => h) (by rfl) ?_ ?_ ?_
       rotate_left
       · (intro w'; go_simp; with_reducible rfl)
       rotate_left
       · (simp only [put_s, List.set, i64_w, i32_w]; rfl)
       refine la_ (i := 21) (N := none) rfl rfl (by kernel_rfl) (by decide) (fun K hK => ?_)
       obtain ⟨cur, hcur, hcs, _⟩ := ow_cur HOW.out
       refine skip_ (w1 := wr.drew.setCells gb (t * 5) (mkM (a1 - 4 * (j : Int))).cells) (by rfl) rfl (run_stC (cur := cur) 35 (.tmp 119) (.tmp 118) rfl (.agg #[.int .i64 (a1 - 4 * (j : Int)), .int .i64 0, .string ⟨#[]⟩, .int .i64 (a1 - 4 * (j : Int)), .slice none 0 0]) _ (by rfl) (by rfl) hcur (by rfl) (by kernel_rfl) (by rw [hcs]; show t * 5 + 5 ≤ lc * 5; omega) (by intro q hq; simp [mkM, MC.cells, Sl.enc, nilS] at hq; rcases hq with rfl | rfl | rfl | rfl | rfl <;> rfl)) ?_
       refine hK.out _ _ ?_
       clear hK K
       refine done_ (by kernel_rfl) ?_
       go_wp2_with fail
       have HKD := Kp.below (ts := fun _ => False) (own := o) (Below.drew (Below.refl wr.heap.size wr)) 24
       have HR3 := HR.keep HKD
       have HPUT := mcK_put (HR3.2.2.2.t0.2 j _ HP.out.1) t htl (mkM (a1 - 4 * (j : Int)))
       refine ⟨⟨t + 1, _, Fq.set j (⟨some ⟨gb, 0, none⟩, ln, lc⟩, xs.set t (mkM (a1 - 4 * (j : Int)))), xs.set t (mkM (a1 - 4 * (j : Int))), by omega, by go_num, HR3.putT HP.out.1 HPUT.2 HPUT.1, HWR.set HP.out.1 _, Lib.hid ⟨List.getElem?_set_self (List.getElem?_eq_some_iff.1 HP.out.1).1, by rw [take_set_succ (by rw [HXL.out]; exact htl), HP.out.2]; exact List.replicate_succ'.symm⟩⟩, by simp [intOf]; omega⟩
      ·
       obtain rfl : t = l.n := by omega
       have dt : decide (((l.n : Nat) : Int) < (l.n : Int)) = false := by simp
       go_wp2_with fail
       exact ⟨⟨j + 1, o, Fq, by omega, by go_num, HR, HWR.succ HP.out.1 (by have h8 := HP.out.2; rw [List.take_of_length_le (by have h9 := (ow_len (HR.2.2.2.t0.2 j _ HP.out.1)).1; dsimp only at h9; omega)] at h8; exact h8)⟩, by simp [intOf]; omega⟩
    ·
     obtain rfl : j = h.T.length := by omega
     have dl : decide (((h.T.length : Nat) : Int) < (h.T.length : Int)) = false := by simp
     clear hl1
     go_wp2_with fail
     clear k1 dl hc1
     have HWT := HWR
     clear HWR
     obtain ⟨T1, rfl⟩ : ∃ T1, T1 = Fq := ⟨_, rfl⟩
     go_loopw [9, 10] (fun i _k wr => ∃ (j : Nat) (o : Nat → Nat) (Fq : List (Sl × List RC)), j ≤ h.A.length ∧ i = .int .i64 (j : Int) ∧ SetR w own gf g s h a0 a1 a2 wr o F1 T1 Fq ∧ Wr (fun m n => List.replicate n (mkR m)) h.A Fq (fun i => a2 - 4 * (i : Int)) j) (fun i _ _ => h.A.length - (intOf i).toNat)
     case atStart => exact ⟨0, _, h.A, by omega, rfl, HR, Wr.zero _ _ _⟩
     case round =>
      clear HR
      obtain ⟨j, o, Fq, hj, rfl, HR, HWR⟩ := hrel
      obtain ⟨A1, c1, hc1, k1, hl1⟩ := row_at (i := 5) HR.2.2.2.blk rfl HR.2.2.2.a0.1
      rw [List.length_map] at hc1 k1 hl1
      dsimp only at hc1 k1 hl1
      rw [HWR.len] at hc1 k1 hl1
      by_cases hlt : j < h.A.length
      ·
       have dl : decide ((j : Int) < (h.A.length : Int)) = true := by simp; omega
       obtain ⟨p, hp⟩ : ∃ p, Fq[j]? = some p := ⟨Fq[j]'(by rw [HWR.len]; exact hlt), List.getElem?_eq_getElem _⟩
       have hpn := Wr.n_le HWR HAN.out hp
       obtain ⟨l, xs⟩ := p
       dsimp only at hpn
       have HP := Lib.hid hp
       clear hp hl1
       go_wp2_with fail
       clear k1 hc1
       go_loopw [10] (fun k wr => ∃ (t : Nat) (o : Nat → Nat) (Fq : List (Sl × List RC)) (xs : List RC), t ≤ l.n ∧ k = .int .i64 (t : Int) ∧ SetR w own gf g s h a0 a1 a2 wr o F1 T1 Fq ∧ Wr (fun m n => List.replicate n (mkR m)) h.A Fq (fun i => a2 - 4 * (i : Int)) j ∧ Hid (Fq[j]? = some (l, xs) ∧ xs.take t = (fun m n => List.replicate n (mkR m)) (a2 - 4 * (j : Int)) t)) (fun k _ => l.n - (intOf k).toNat)
       case atStart => exact ⟨0, o, Fq, xs, by omega, rfl, HR, HWR, Lib.hid ⟨HP.out, rfl⟩⟩
       case round =>
        clear HR HWR HP
        obtain ⟨t, o, Fq, xs, ht, rfl, HR, HWR, HP⟩ := hrel
        obtain ⟨A1, c1, hc1, k1, hl1⟩ := row_at (i := 5) HR.2.2.2.blk rfl HR.2.2.2.a0.1
        rw [List.length_map] at hc1 k1 hl1
        dsimp only at hc1 k1 hl1
        rw [HWR.len] at hc1 k1 hl1
        obtain ⟨ad, rfl, e1⟩ := sl_at hl1 j hlt l (by rw [List.getElem?_map, HP.out.1]; rfl)
        simp only [Sl.enc] at e1
        have k0 : wr.cell? ⟨gf, 2, none⟩ = some (.int .i64 a2) := Blk.cell (i := 2) HR.1 rfl
        clear hl1
        by_cases htl : t < l.n
        ·
         have dt : decide ((t : Int) < (l.n : Int)) = true := by simp; omega
         have hti : (t : Int) < (l.n : Int) := by omega
         have hji : (j : Int) < (h.A.length : Int) := by omega
         have HO := HR.2.2.2.a0.2 j _ HP.out.1
         dsimp only at HO
         obtain ⟨gb, hz⟩ := ow_head HO (Nat.lt_of_le_of_lt (Nat.zero_le _) htl)
         obtain ⟨lA, ln, lc⟩ := l
         simp only [Sl.mk.injEq, and_true, true_and] at hz
         subst hz
         dsimp only at *
         have hxl : xs.length = ln := (ow_len HO).1
         have hlc : ln ≤ lc := (ow_len HO).2.1
         obtain ⟨x9, hx9⟩ : ∃ x9, xs[t]? = some x9 := ⟨xs[t]'(by rw [hxl]; exact htl), List.getElem?_eq_getElem _⟩
         have HX9 := Lib.hid hx9
         clear hx9
         have HXL := Lib.hid hxl
         have HOW := Lib.hid HO
         clear HO hxl
         have s1 : IntKind.i64.wrap (4 * (j : Int)) = 4 * (j : Int) := IntWalk.i64_in _ (by omega)
         have s2 : IntKind.i64.wrap (a2 - 4 * (j : Int)) = a2 - 4 * (j : Int) := IntWalk.i64_in _ (by omega)
         go_wp2_with fail
         refine start_ (n := 22) (S := fun w' => w'.cell? ⟨g, 5, none⟩ = some (.slice (some ad) h.A.length c1) ∧ w'.cell? (ad.add j) = some (.slice (some ⟨gb, 0, none⟩) ln lc) ∧ w'.cell? ⟨gf, 2, none⟩ = some (.int .i64 a2)) (ds := [21]) #[false, false, false, false, false, false, false, false, false, false, false, false, false, false, false, false, false, false, false, false, false, false] (by kernel_rfl) rfl rfl ⟨k1, e1, k0⟩ (fun hHeld => ?_)
         refine pu_ (i := 0) (N := some 143) (v := ?_) (a' := ?_) rfl rfl (by kernel_rfl) (fun _ _ _ h => h) (by rfl) ?_ ?_ ?_
         rotate_left
         · (intro w'; go_simp; with_reducible rfl)
         rotate_left
         · (simp only [put_s, List.set, i64_w, i32_w]; rfl)
         refine pu_ (i := 1) (N := some 144) (v := ?_) (a' := ?_) rfl rfl (by kernel_rfl) (fun _ _ _ h => h) (by rfl) ?_ ?_ ?_
         rotate_left
         · (intro w'; go_simp; with_reducible rfl)
         rotate_left
         · (simp only [put_s, List.set, i64_w, i32_w]; rfl)
         refine pu_ (i := 2) (N := some 145) (v := ?_) (a' := ?_) rfl rfl (by kernel_rfl) (fun _ _ _ h => h) (by rfl) ?_ ?_ ?_
         rotate_left
         · (intro w'; go_simp; with_reducible rfl)
         rotate_left
         · (simp only [put_s, List.set, i64_w, i32_w]; rfl)
         refine pu_ (i := 3) (N := some 146) (v := ?_) (a' := ?_) rfl rfl (by kernel_rfl) (fun _ _ _ h => h) (by rfl) ?_ ?_ ?_
         rotate_left
         · (intro w'; go_simp; with_reducible rfl)
         rotate_left
         · (simp only [put_s, List.set, i64_w, i32_w]; rfl)
         refine tk_ (i := 4) (N := some 147) (v := ?_) (a' := ?_) rfl rfl (by kernel_rfl) (fun _ _ _ h => h) (by rfl) ?_ hHeld ?_ ?_
         rotate_left
         · (intro w' s0; go_simp; with_reducible rfl)
         rotate_left
         · (simp only [put_s, List.set, i64_w, i32_w]; rfl)
         refine pu_ (i := 5) (N := some 148) (v := ?_) (a' := ?_) rfl rfl (by kernel_rfl) (fun _ _ _ h => h) (by rfl) ?_ ?_ ?_
         rotate_left
         · (intro w'; go_simp; with_reducible rfl)
         rotate_left
         · (simp only [put_s, List.set, i64_w, i32_w]; rfl)
         refine pu_ (i := 6) (N := some 149) (v := ?_) (a' := ?_) rfl rfl (by kernel_rfl) (fun _ _ _ h => h) (by rfl) ?_ ?_ ?_
         rotate_left
         · (intro w'; go_simp; with_reducible rfl)
         rotate_left
         · (simp only [put_s, List.set, i64_w, i32_w]; rfl)
         refine tk_ (i := 7) (N := some 150) (v := ?_) (a' := ?_) rfl rfl (by kernel_rfl) (fun _ _ _ h => h) (by rfl) ?_ hHeld ?_ ?_
         rotate_left
         · (intro w' s0; go_simp; with_reducible rfl)
         rotate_left
         · (simp only [put_s, List.set, i64_w, i32_w]; rfl)
         refine pu_ (i := 8) (N := some 151) (v := ?_) (a' := ?_) rfl rfl (by kernel_rfl) (fun _ _ _ h => h) (by rfl) ?_ ?_ ?_
         rotate_left
         · (intro w'; go_simp; with_reducible rfl)
         rotate_left
         · (simp only [put_s, List.set, i64_w, i32_w]; rfl)
         refine pu_ (i := 9) (N := some 152) (v := ?_) (a' := ?_) rfl rfl (by kernel_rfl) (fun _ _ _ h => h) (by rfl) ?_ ?_ ?_
         rotate_left
         · (intro w'; go_simp; with_reducible rfl)
         rotate_left
         · (simp only [put_s, List.set, i64_w, i32_w]; rfl)
         refine tk_ (i := 10) (N := some 153) (v := ?_) (a' := ?_) rfl rfl (by kernel_rfl) (fun _ _ _ h => h) (by rfl) ?_ hHeld ?_ ?_
         rotate_left
         · (intro w' s0; go_simp; with_reducible rfl)
         rotate_left
         · (simp only [put_s, List.set, i64_w, i32_w]; rfl)
         refine pu_ (i := 11) (N := some 154) (v := ?_) (a' := ?_) rfl rfl (by kernel_rfl) (fun _ _ _ h => h) (by rfl) ?_ ?_ ?_
         rotate_left
         · (intro w'; go_simp; with_reducible rfl)
         rotate_left
         · (simp only [put_s, List.set, i64_w, i32_w]; rfl)
         refine pu_ (i := 12) (N := some 155) (v := ?_) (a' := ?_) rfl rfl (by kernel_rfl) (fun _ _ _ h => h) (by rfl) ?_ ?_ ?_
         rotate_left
         · (intro w'; go_simp; with_reducible rfl)
         rotate_left
         · (simp only [put_s, List.set, i64_w, i32_w]; rfl)
         refine pu_ (i := 13) (N := some 156) (v := ?_) (a' := ?_) rfl rfl (by kernel_rfl) (fun _ _ _ h => h) (by rfl) ?_ ?_ ?_
         rotate_left
         · (intro w'; go_simp; with_reducible rfl)
         rotate_left
         · (simp only [put_s, List.set, i64_w, i32_w]; rfl)
         refine pu_ (i := 14) (N := some 157) (v := ?_) (a' := ?_) rfl rfl (by kernel_rfl) (fun _ _ _ h => h) (by rfl) ?_ ?_ ?_
         rotate_left
         · (intro w'; go_simp; with_reducible rfl)
         rotate_left
         · (simp only [put_s, List.set, i64_w, i32_w]; rfl)
         refine tk_ (i := 15) (N := some 158) (v := ?_) (a' := ?_) rfl rfl (by kernel_rfl) (fun _ _ _ h => h) (by rfl) ?_ hHeld ?_ ?_
         rotate_left
         · (intro w' s0; go_simp; with_reducible rfl)
         rotate_left
         · (simp only [put_s, List.set, i64_w, i32_w]; rfl)
         refine pu_ (i := 16) (N := some 159) (v := ?_) (a' := ?_) rfl rfl (by kernel_rfl) (fun _ _ _ h => h) (by rfl) ?_ ?_ ?_
         rotate_left
         · (intro w'; go_simp; with_reducible rfl)
         rotate_left
         · (simp only [put_s, List.set, i64_w, i32_w]; rfl)
         refine pu_ (i := 17) (N := some 160) (v := ?_) (a' := ?_) rfl rfl (by kernel_rfl) (fun _ _ _ h => h) (by rfl) ?_ ?_ ?_
         rotate_left
         · (intro w'; go_simp; with_reducible rfl)
         rotate_left
         · (simp only [put_s, List.set, i64_w, i32_w]; rfl)
         refine pu_ (i := 18) (N := some 161) (v := ?_) (a' := ?_) rfl rfl (by kernel_rfl) (fun _ _ _ h => h) (by rfl) ?_ ?_ ?_
         rotate_left
         · (intro w'; go_simp; with_reducible rfl)
         rotate_left
         · (simp only [put_s, List.set, i64_w, i32_w]; rfl)
         refine pu_ (i := 19) (N := some 162) (v := ?_) (a' := ?_) rfl rfl (by kernel_rfl) (fun _ _ _ h => h) (by rfl) ?_ ?_ ?_
         rotate_left
         · (intro w'; go_simp; with_reducible rfl)
         rotate_left
         · (simp only [put_s, List.set, i64_w, i32_w]; rfl)
         refine pu_ (i := 20) (N := some 163) (v := ?_) (a' := ?_) rfl rfl (by kernel_rfl) (fun _ _ _ h => h) (by rfl) ?_ ?_ ?_
         rotate_left
         · (intro w'; go_simp; with_reducible rfl)
         rotate_left
         · (simp only [put_s, List.set, i64_w, i32_w]; rfl)
         refine la_ (i := 21) (N := none) rfl rfl (by kernel_rfl) (by decide) (fun K hK => ?_)
         obtain ⟨cur, hcur, hcs, _⟩ := ow_cur HOW.out
         refine skip_ (w1 := wr.drew.setCells gb (t * 4) (mkR (a2 - 4 * (j : Int))).cells) (by rfl) rfl (run_stC (cur := cur) 44 (.tmp 163) (.tmp 162) rfl (.agg #[.int .i64 (a2 - 4 * (j : Int)), .int .i64 (a2 - 4 * (j : Int)), .int .i64 0, .slice none 0 0]) _ (by rfl) (by rfl) hcur (by rfl) (by kernel_rfl) (by rw [hcs]; show t * 4 + 4 ≤ lc * 4; omega) (by intro q hq; simp [mkR, RC.cells, Sl.enc, nilS] at hq; rcases hq with rfl | rfl | rfl | rfl | rfl <;> rfl)) ?_
         refine hK.out _ _ ?_
         clear hK K
         refine done_ (by kernel_rfl) ?_
         go_wp2_with fail
         have HKD := Kp.below (ts := fun _ => False) (own := o) (Below.drew (Below.refl wr.heap.size wr)) 24
         have HR3 := HR.keep HKD
         have HPUT := rcK_put (HR3.2.2.2.a0.2 j _ HP.out.1) t htl (mkR (a2 - 4 * (j : Int)))
         refine ⟨⟨t + 1, _, Fq.set j (⟨some ⟨gb, 0, none⟩, ln, lc⟩, xs.set t (mkR (a2 - 4 * (j : Int)))), xs.set t (mkR (a2 - 4 * (j : Int))), by omega, by go_num, HR3.putA HP.out.1 HPUT.2 HPUT.1, HWR.set HP.out.1 _, Lib.hid ⟨List.getElem?_set_self (List.getElem?_eq_some_iff.1 HP.out.1).1, by rw [take_set_succ (by rw [HXL.out]; exact htl), HP.out.2]; exact List.replicate_succ'.symm⟩⟩, by simp [intOf]; omega⟩
        ·
         obtain rfl : t = l.n := by omega
         have dt : decide (((l.n : Nat) : Int) < (l.n : Int)) = false := by simp
         go_wp2_with fail
         exact ⟨⟨j + 1, o, Fq, by omega, by go_num, HR, HWR.succ HP.out.1 (by have h8 := HP.out.2; rw [List.take_of_length_le (by have h9 := (ow_len (HR.2.2.2.a0.2 j _ HP.out.1)).1; dsimp only at h9; omega)] at h8; exact h8)⟩, by simp [intOf]; omega⟩
      ·
       obtain rfl : j = h.A.length := by omega
       have dl : decide (((h.A.length : Nat) : Int) < (h.A.length : Int)) = false := by simp
       clear hl1
       have HWA := HWR
       clear HWR
       obtain ⟨A1', rfl⟩ : ∃ A9, A9 = Fq := ⟨_, rfl⟩
       have g0 : wr.cell? ⟨gf, 0, none⟩ = some (.int .i64 a0) := Blk.cell (i := 0) HR.1 rfl
       have g1 : wr.cell? ⟨gf, 1, none⟩ = some (.int .i64 a1) := Blk.cell (i := 1) HR.1 rfl
       have g2 : wr.cell? ⟨gf, 2, none⟩ = some (.int .i64 a2) := Blk.cell (i := 2) HR.1 rfl
       have HCG := Lib.hid (grows_ok wr g o s { h with F := F1, T := T1, A := A1' } a0 a1 a2 (WInv.g HR.2.2.2) (by omega) (by omega) (by omega) ⟨HL.out.b, fun i p k hp hk => ⟨HL.out.lb i p k hp hk, HM.out.bx p (List.mem_of_getElem? hp)⟩⟩ ⟨HL.out.m, fun i p k hp hk => ⟨HL.out.lm i p k hp hk, HM.out.mx p (List.mem_of_getElem? hp)⟩⟩ ⟨HL.out.r, fun i p k hp hk => ⟨HL.out.lr i p k hp hk, HM.out.rx p (List.mem_of_getElem? hp)⟩⟩
        (fun i p hp => Fz.of_u8 (by have e9 := HWF.wr i p (by have h9 := (List.getElem?_eq_some_iff.1 hp).1; rw [HWF.len] at h9; exact h9) hp; rw [← e9]; exact HR.2.2.2.f0.2 i p hp)) (fun p hp => by obtain ⟨i, hi⟩ := List.getElem?_of_mem hp; exact Wr.n_le HWF HFN.out hi) (by dsimp only; rw [HWF.len]; exact hFl) (by dsimp only; rw [HWF.len]; exact hBl)
        (fun i p hp => Fz.of_mcK (by have e9 := HWT.wr i p (by have h9 := (List.getElem?_eq_some_iff.1 hp).1; rw [HWT.len] at h9; exact h9) hp; rw [← e9]; exact HR.2.2.2.t0.2 i p hp)) (fun p hp => by obtain ⟨i, hi⟩ := List.getElem?_of_mem hp; exact Wr.n_le HWT HTN.out hi) (by dsimp only; rw [HWT.len]; exact hTl) (by dsimp only; rw [HWT.len]; exact hMl)
        (fun i p hp => Fz.of_rcK (by have e9 := HWA.wr i p (by have h9 := (List.getElem?_eq_some_iff.1 hp).1; rw [HWA.len] at h9; exact h9) hp; rw [← e9]; exact HR.2.2.2.a0.2 i p hp)) (fun p hp => by obtain ⟨i, hi⟩ := List.getElem?_of_mem hp; exact Wr.n_le HWA HAN.out hi) (by dsimp only; rw [HWA.len]; exact hAl) (by dsimp only; rw [HWA.len]; exact hRl))
       go_upto_region 27 with (go_at_call 39; refine Calls.mono HCG.out ?_; rintro e w5 ⟨rfl, hG⟩)
       clear HCG g0 g1 g2 k1 dl hc1
       obtain ⟨o5, s5, B, M, R, K0, K1, K2, hW5, hPB, hPM, hPR, lB, lM, lR, hK5⟩ := hG
       dsimp only at hW5 lB lM lR
       rw [HWF.len] at lB
       rw [HWT.len] at lM
       rw [HWA.len] at lR
       have HW5 := Lib.hid hW5
       have HP5 := Lib.hid (show Pr2 PB B K0 ∧ Pr2 PM M K1 ∧ Pr2 PQ R K2 from ⟨hPB, hPM, hPR⟩)
       have HL5 := Lib.hid (show B.length = h.B.length + 4 * h.F.length ∧ M.length = h.M.length + 4 * h.T.length ∧ R.length = h.R.length + 4 * h.A.length from ⟨lB, lM, lR⟩)
       have HK5 := Lib.hid (HR.2.2.1.trans hK5)
       clear hPB hPM hPR lB lM lR hK5 HR HWF HWT HWA
       have HBa := Lib.hid (HW5.out.blk)
       have HKa := Lib.hid (Kp.refl (fun q => q = 2) w5 o5)
       clear hW5
       obtain ⟨wa, rfl⟩ : ∃ wa, wa = w5 := ⟨_, rfl⟩
       have HOG := Lib.hid HW5.out.og
       have c1 := Blk.cell (i := 1) HBa.out rfl
       have c2 := Blk.cell (i := 2) HBa.out rfl
       have z1 := Blk.frozen (i := 1) HBa.out
       have z2 := Blk.frozen (i := 2) HBa.out
       go_upto_region 28 with (fail)
       have HBb := Lib.hid (Blk.set (i := 2) (Blk.set (i := 1) HBa.out (.slice none 0 0)) (.slice none 0 0))
       have HKb := Lib.hid ((HKa.out.set ⟨g, 1, none⟩ (.slice none 0 0) (fun k _ hn e => hn (by have e' : k = g := e; rw [e']; exact HOG.out))).set ⟨g, 2, none⟩ (.slice none 0 0) (fun k _ hn e => hn (by have e' : k = g := e; rw [e']; exact HOG.out)))
       clear c1 c2 z1 z2 HBa HKa
       generalize (wa.setCell ⟨g, 1, none⟩ (.slice none 0 0)).setCell ⟨g, 2, none⟩ (.slice none 0 0) = wb at HBb HKb ⊢
       have c3 := Blk.cell (i := 3) HBb.out rfl
       have c4 := Blk.cell (i := 4) HBb.out rfl
       have z3 := Blk.frozen (i := 3) HBb.out
       have z4 := Blk.frozen (i := 4) HBb.out
       go_upto_region 29 with (fail)
       have HBc := Lib.hid (Blk.set (i := 4) (Blk.set (i := 3) HBb.out (.slice none 0 0)) (.slice none 0 0))
       have HKc := Lib.hid ((HKb.out.set ⟨g, 3, none⟩ (.slice none 0 0) (fun k _ hn e => hn (by have e' : k = g := e; rw [e']; exact HOG.out))).set ⟨g, 4, none⟩ (.slice none 0 0) (fun k _ hn e => hn (by have e' : k = g := e; rw [e']; exact HOG.out)))
       clear c3 c4 z3 z4 HBb HKb
       generalize (wb.setCell ⟨g, 3, none⟩ (.slice none 0 0)).setCell ⟨g, 4, none⟩ (.slice none 0 0) = wc at HBc HKc ⊢
       have c5 := Blk.cell (i := 5) HBc.out rfl
       have c6 := Blk.cell (i := 6) HBc.out rfl
       have z5 := Blk.frozen (i := 5) HBc.out
       have z6 := Blk.frozen (i := 6) HBc.out
       go_upto_region 30 with (fail)
       have HBd := Lib.hid (Blk.set (i := 6) (Blk.set (i := 5) HBc.out (.slice none 0 0)) (.slice none 0 0))
       have HKd := Lib.hid ((HKc.out.set ⟨g, 5, none⟩ (.slice none 0 0) (fun k _ hn e => hn (by have e' : k = g := e; rw [e']; exact HOG.out))).set ⟨g, 6, none⟩ (.slice none 0 0) (fun k _ hn e => hn (by have e' : k = g := e; rw [e']; exact HOG.out)))
       clear c5 c6 z5 z6 HBc HKc
       generalize (wc.setCell ⟨g, 5, none⟩ (.slice none 0 0)).setCell ⟨g, 6, none⟩ (.slice none 0 0) = wd at HBd HKd ⊢
       have HWd : Hid (WInv wd g o5 { s5 with f0 := nilS, f1 := nilS, t0 := nilS, t1 := nilS, a0 := nilS, a1 := nilS } { h with F := [], C := [], T := [], U := [], A := [], V := [], B := B, M := M, R := R, K0 := K0, K1 := K1, K2 := K2 }) := Lib.hid (by
        have hb : Blk wd g ({ s5 with f0 := nilS, f1 := nilS, t0 := nilS, t1 := nilS, a0 := nilS, a1 := nilS } : St).cells 61 := HBd.out
        have hg := HOG.out
        have hk := HKd.out
        have hW := HW5.out
        exact {
         blk := hb
         og := hg
         l := PL.keep hW.l hk (by (intro hq; first | omega | (dsimp only at hq; omega) | (dsimp only at hq; done))) (fun i => by (intro hq; first | omega | (dsimp only at hq; omega) | (dsimp only at hq; done))) (fun i => by (intro hq; first | omega | (dsimp only at hq; omega) | (dsimp only at hq; done)))
         f0 := ⟨Kd.R_nil _ _ _ _ _, fun i p hp => by simp at hp⟩
         f1 := ⟨Kd.R_nil _ _ _ _ _, fun p hp => by simp at hp⟩
         t0 := ⟨Kd.R_nil _ _ _ _ _, fun i p hp => by simp at hp⟩
         t1 := ⟨Kd.R_nil _ _ _ _ _, fun p hp => by simp at hp⟩
         a0 := ⟨Kd.R_nil _ _ _ _ _, fun i p hp => by simp at hp⟩
         a1 := ⟨Kd.R_nil _ _ _ _ _, fun p hp => by simp at hp⟩
         b := PR.keep u8K_K (by decide) hW.b hk (by (intro hq; first | omega | (dsimp only at hq; omega) | (dsimp only at hq; done))) (by (intro hq; first | omega | (dsimp only at hq; omega) | (dsimp only at hq; done)))
         m := PR.keep mcK_K (by decide) hW.m hk (by (intro hq; first | omega | (dsimp only at hq; omega) | (dsimp only at hq; done))) (by (intro hq; first | omega | (dsimp only at hq; omega) | (dsimp only at hq; done)))
         r := PR.keep rcK_K (by decide) hW.r hk (by (intro hq; first | omega | (dsimp only at hq; omega) | (dsimp only at hq; done))) (by (intro hq; first | omega | (dsimp only at hq; omega) | (dsimp only at hq; done)))
         k0 := Ow.keep hW.k0 hk (by (intro hq; first | omega | (dsimp only at hq; omega) | (dsimp only at hq; done)))
         k1 := Ow.keep hW.k1 hk (by (intro hq; first | omega | (dsimp only at hq; omega) | (dsimp only at hq; done)))
         k2 := Ow.keep hW.k2 hk (by (intro hq; first | omega | (dsimp only at hq; omega) | (dsimp only at hq; done)))
         e := PO.keep hW.e hk (by (intro hq; first | omega | (dsimp only at hq; omega) | (dsimp only at hq; done))) (fun i => by (intro hq; first | omega | (dsimp only at hq; omega) | (dsimp only at hq; done))) })
       have hbx : ∀ p ∈ B, p.2.length ≤ 2000000000000 := fun p hp => by
        obtain ⟨i, hi⟩ := List.getElem?_of_mem hp
        have hl := (List.getElem?_eq_some_iff.1 hi).1
        exact (HP5.out.1.2 i p (K0[i]'(by rw [← HP5.out.1.1]; exact hl)) hi (List.getElem?_eq_getElem _)).2
       have hmx : ∀ p ∈ M, p.2.length ≤ 2000000000000 := fun p hp => by
        obtain ⟨i, hi⟩ := List.getElem?_of_mem hp
        have hl := (List.getElem?_eq_some_iff.1 hi).1
        exact (HP5.out.2.1.2 i p (K1[i]'(by rw [← HP5.out.2.1.1]; exact hl)) hi (List.getElem?_eq_getElem _)).2
       have hrx : ∀ p ∈ R, p.2.length ≤ 2000000000000 := fun p hp => by
        obtain ⟨i, hi⟩ := List.getElem?_of_mem hp
        have hl := (List.getElem?_eq_some_iff.1 hi).1
        exact (HP5.out.2.2.2 i p (K2[i]'(by rw [← HP5.out.2.2.1]; exact hl)) hi (List.getElem?_eq_getElem _)).2
       have HX := Lib.hid (show _ ∧ _ ∧ _ from ⟨hbx, hmx, hrx⟩)
       clear hbx hmx hrx
       have HLd : Hid (Lk { h with F := [], C := [], T := [], U := [], A := [], V := [], B := B, M := M, R := R, K0 := K0, K1 := K1, K2 := K2 }) := Lib.hid ⟨HP5.out.1.1, HP5.out.2.1.1, HP5.out.2.2.1, fun i p k hp hk => (HP5.out.1.2 i p k hp hk).1, fun i p k hp hk => (HP5.out.2.1.2 i p k hp hk).1, fun i p k hp hk => (HP5.out.2.2.2 i p k hp hk).1, HL.out.le⟩
       have HMd : Hid (Sm { h with F := [], C := [], T := [], U := [], A := [], V := [], B := B, M := M, R := R, K0 := K0, K1 := K1, K2 := K2 }) := Lib.hid ⟨by simp, by simp, by simp, by have := HL5.out.1; dsimp only; omega, by have := HL5.out.2.1; dsimp only; omega, by have := HL5.out.2.2; dsimp only; omega, HM.out.E, HM.out.L, by simp, by simp, by simp, HX.out.1, HX.out.2.1, HX.out.2.2, HM.out.ex⟩
       go_wp2_with (go_at_call 22; refine Calls.mono (looks_ok wd g o5 _ _ HWd.out HLd.out HMd.out) ?_; rintro e w9 ⟨rfl, hb9⟩)
       go_ret
       have hk9 := Kp.below (ts := fun _ => False) (own := o5) hb9 24
       exact ⟨rfl, _, _, _, HWd.out.keep (hk9.mono (fun q hq => hq.elim)), HLd.out, ⟨rfl, rfl, rfl, rfl, rfl, rfl⟩, rfl, rfl, HL5.out, HX.out, (HK5.out.trans (HKd.out.mono (fun q hq => by unfold big; omega))).trans (hk9.mono (fun q hq => hq.elim))⟩
end Go.Proofs.Ytpflenaoplblkaa.PaX
end
