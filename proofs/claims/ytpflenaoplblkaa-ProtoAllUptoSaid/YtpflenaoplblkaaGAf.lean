import Derived.Test.YtpflenaoplblkaaGAe
section
namespace Go.Proofs.Ytpflenaoplblkaa.PProtoAll
open Go.RowKit YtpflenaoplblkaaW.PrintWords YtpflenaoplblkaaW.PrintLast YtpflenaoplblkaaW.PrintMore
attribute [local go_sem] max2_int min2_int max_two min_two max_three min_three max_four min_four   -- for this text's walks alone
set_option linter.unusedVariables false
set_option linter.unusedSimpArgs false
def arcadelaw12_first.f  : Option ((List (S64))) := some (([(⟨1, 0, ([] : List Int), (⟨0, 0, (⟨#[]⟩ : ByteArray), 0, ([] : List Int)⟩ : S35), (⟨0, 0, 0, ([] : List Int)⟩ : S44)⟩ : S64), (⟨2, 0, (([0, 0, 0, 3, 3, 0] : List Int)), (⟨0, 0, (⟨#[]⟩ : ByteArray), 0, ([] : List Int)⟩ : S35), (⟨0, 0, 0, ([] : List Int)⟩ : S44)⟩ : S64), (⟨2, 0, (([5, 0, 0] : List Int)), (⟨0, 0, (⟨#[]⟩ : ByteArray), 0, ([] : List Int)⟩ : S35), (⟨0, 0, 0, ([] : List Int)⟩ : S44)⟩ : S64), (⟨4, 0, ([] : List Int), (⟨0, 0, (⟨#[]⟩ : ByteArray), 0, ([] : List Int)⟩ : S35), (⟨0, 0, 0, ([] : List Int)⟩ : S44)⟩ : S64), (⟨5, 0, ([] : List Int), (⟨1, 1, (⟨#[97]⟩ : ByteArray), 0, (([9] : List Int))⟩ : S35), (⟨0, 0, 0, ([] : List Int)⟩ : S44)⟩ : S64), (⟨6, 0, ([] : List Int), (⟨0, 0, (⟨#[]⟩ : ByteArray), 0, ([] : List Int)⟩ : S35), (⟨4, 1, 2, ([] : List Int)⟩ : S44)⟩ : S64), (⟨7, 0, (([0, 0, 0, 1, 2] : List Int)), (⟨0, 0, (⟨#[]⟩ : ByteArray), 0, ([] : List Int)⟩ : S35), (⟨0, 0, 0, ([] : List Int)⟩ : S44)⟩ : S64)] : List (S64)))
set_option maxHeartbeats 8000000 in
set_option maxRecDepth 100000 in
theorem arcadelaw12_first.calls  (r : List (S64)) (w : World) (h : arcadelaw12_first.f  = some r) :
  Calls Try.prog 19 #[] w fun e w' => ∃ v0_ : Value, e = .returned (v0_) ∧ Kd.N k64 64 w' w.heap.size (fun k_ => (w.heap.size ≤ k_)) v0_ r ∧ Below w.heap.size w w' := by
 have hu64 := Try.underlying64
 have hu35 := Try.underlying35
 have hu44 := Try.underlying44
 have HB := Aside0.mk (Below.refl w.heap.size w)
 have H : (some (([(⟨1, 0, ([] : List Int), (⟨0, 0, (⟨#[]⟩ : ByteArray), 0, ([] : List Int)⟩ : S35), (⟨0, 0, 0, ([] : List Int)⟩ : S44)⟩ : S64), (⟨2, 0, (([0, 0, 0, 3, 3, 0] : List Int)), (⟨0, 0, (⟨#[]⟩ : ByteArray), 0, ([] : List Int)⟩ : S35), (⟨0, 0, 0, ([] : List Int)⟩ : S44)⟩ : S64), (⟨2, 0, (([5, 0, 0] : List Int)), (⟨0, 0, (⟨#[]⟩ : ByteArray), 0, ([] : List Int)⟩ : S35), (⟨0, 0, 0, ([] : List Int)⟩ : S44)⟩ : S64), (⟨4, 0, ([] : List Int), (⟨0, 0, (⟨#[]⟩ : ByteArray), 0, ([] : List Int)⟩ : S35), (⟨0, 0, 0, ([] : List Int)⟩ : S44)⟩ : S64), (⟨5, 0, ([] : List Int), (⟨1, 1, (⟨#[97]⟩ : ByteArray), 0, (([9] : List Int))⟩ : S35), (⟨0, 0, 0, ([] : List Int)⟩ : S44)⟩ : S64), (⟨6, 0, ([] : List Int), (⟨0, 0, (⟨#[]⟩ : ByteArray), 0, ([] : List Int)⟩ : S35), (⟨4, 1, 2, ([] : List Int)⟩ : S44)⟩ : S64), (⟨7, 0, (([0, 0, 0, 1, 2] : List Int)), (⟨0, 0, (⟨#[]⟩ : ByteArray), 0, ([] : List Int)⟩ : S35), (⟨0, 0, 0, ([] : List Int)⟩ : S44)⟩ : S64)] : List (S64)))) = some r := h
 clear h
 obtain ⟨y101, hy101⟩ : ∃ y_ : List Int, y_ = (([0, 0, 0, 3, 3, 0] : List Int)) := ⟨_, rfl⟩
 replace H : (some (([(⟨1, 0, ([] : List Int), (⟨0, 0, (⟨#[]⟩ : ByteArray), 0, ([] : List Int)⟩ : S35), (⟨0, 0, 0, ([] : List Int)⟩ : S44)⟩ : S64), (⟨2, 0, y101, (⟨0, 0, (⟨#[]⟩ : ByteArray), 0, ([] : List Int)⟩ : S35), (⟨0, 0, 0, ([] : List Int)⟩ : S44)⟩ : S64), (⟨2, 0, (([5, 0, 0] : List Int)), (⟨0, 0, (⟨#[]⟩ : ByteArray), 0, ([] : List Int)⟩ : S35), (⟨0, 0, 0, ([] : List Int)⟩ : S44)⟩ : S64), (⟨4, 0, ([] : List Int), (⟨0, 0, (⟨#[]⟩ : ByteArray), 0, ([] : List Int)⟩ : S35), (⟨0, 0, 0, ([] : List Int)⟩ : S44)⟩ : S64), (⟨5, 0, ([] : List Int), (⟨1, 1, (⟨#[97]⟩ : ByteArray), 0, (([9] : List Int))⟩ : S35), (⟨0, 0, 0, ([] : List Int)⟩ : S44)⟩ : S64), (⟨6, 0, ([] : List Int), (⟨0, 0, (⟨#[]⟩ : ByteArray), 0, ([] : List Int)⟩ : S35), (⟨4, 1, 2, ([] : List Int)⟩ : S44)⟩ : S64), (⟨7, 0, (([0, 0, 0, 1, 2] : List Int)), (⟨0, 0, (⟨#[]⟩ : ByteArray), 0, ([] : List Int)⟩ : S35), (⟨0, 0, 0, ([] : List Int)⟩ : S44)⟩ : S64)] : List (S64)))) = some r := by first | (rw [hy101]; with_reducible exact H) | (have H2_ := (Option.bind_some _ _).symm.trans H; rw [hy101]; with_reducible exact H2_) | (have H2_ := (Option.bind_some _ _).symm.trans H; with_reducible exact H2_) | with_reducible exact H | (rw [hy101]; exact H) | exact H
 have Ny101 := Aside0.mk hy101
 clear hy101
 obtain ⟨y104, hy104⟩ : ∃ y_ : List Int, y_ = (([5, 0, 0] : List Int)) := ⟨_, rfl⟩
 replace H : (some (([(⟨1, 0, ([] : List Int), (⟨0, 0, (⟨#[]⟩ : ByteArray), 0, ([] : List Int)⟩ : S35), (⟨0, 0, 0, ([] : List Int)⟩ : S44)⟩ : S64), (⟨2, 0, y101, (⟨0, 0, (⟨#[]⟩ : ByteArray), 0, ([] : List Int)⟩ : S35), (⟨0, 0, 0, ([] : List Int)⟩ : S44)⟩ : S64), (⟨2, 0, y104, (⟨0, 0, (⟨#[]⟩ : ByteArray), 0, ([] : List Int)⟩ : S35), (⟨0, 0, 0, ([] : List Int)⟩ : S44)⟩ : S64), (⟨4, 0, ([] : List Int), (⟨0, 0, (⟨#[]⟩ : ByteArray), 0, ([] : List Int)⟩ : S35), (⟨0, 0, 0, ([] : List Int)⟩ : S44)⟩ : S64), (⟨5, 0, ([] : List Int), (⟨1, 1, (⟨#[97]⟩ : ByteArray), 0, (([9] : List Int))⟩ : S35), (⟨0, 0, 0, ([] : List Int)⟩ : S44)⟩ : S64), (⟨6, 0, ([] : List Int), (⟨0, 0, (⟨#[]⟩ : ByteArray), 0, ([] : List Int)⟩ : S35), (⟨4, 1, 2, ([] : List Int)⟩ : S44)⟩ : S64), (⟨7, 0, (([0, 0, 0, 1, 2] : List Int)), (⟨0, 0, (⟨#[]⟩ : ByteArray), 0, ([] : List Int)⟩ : S35), (⟨0, 0, 0, ([] : List Int)⟩ : S44)⟩ : S64)] : List (S64)))) = some r := by first | (rw [hy104]; with_reducible exact H) | (have H2_ := (Option.bind_some _ _).symm.trans H; rw [hy104]; with_reducible exact H2_) | (have H2_ := (Option.bind_some _ _).symm.trans H; with_reducible exact H2_) | with_reducible exact H | (rw [hy104]; exact H) | exact H
 have Ny104 := Aside0.mk hy104
 clear hy104
 obtain ⟨y107, hy107⟩ : ∃ y_ : List Int, y_ = (([9] : List Int)) := ⟨_, rfl⟩
 replace H : (some (([(⟨1, 0, ([] : List Int), (⟨0, 0, (⟨#[]⟩ : ByteArray), 0, ([] : List Int)⟩ : S35), (⟨0, 0, 0, ([] : List Int)⟩ : S44)⟩ : S64), (⟨2, 0, y101, (⟨0, 0, (⟨#[]⟩ : ByteArray), 0, ([] : List Int)⟩ : S35), (⟨0, 0, 0, ([] : List Int)⟩ : S44)⟩ : S64), (⟨2, 0, y104, (⟨0, 0, (⟨#[]⟩ : ByteArray), 0, ([] : List Int)⟩ : S35), (⟨0, 0, 0, ([] : List Int)⟩ : S44)⟩ : S64), (⟨4, 0, ([] : List Int), (⟨0, 0, (⟨#[]⟩ : ByteArray), 0, ([] : List Int)⟩ : S35), (⟨0, 0, 0, ([] : List Int)⟩ : S44)⟩ : S64), (⟨5, 0, ([] : List Int), (⟨1, 1, (⟨#[97]⟩ : ByteArray), 0, y107⟩ : S35), (⟨0, 0, 0, ([] : List Int)⟩ : S44)⟩ : S64), (⟨6, 0, ([] : List Int), (⟨0, 0, (⟨#[]⟩ : ByteArray), 0, ([] : List Int)⟩ : S35), (⟨4, 1, 2, ([] : List Int)⟩ : S44)⟩ : S64), (⟨7, 0, (([0, 0, 0, 1, 2] : List Int)), (⟨0, 0, (⟨#[]⟩ : ByteArray), 0, ([] : List Int)⟩ : S35), (⟨0, 0, 0, ([] : List Int)⟩ : S44)⟩ : S64)] : List (S64)))) = some r := by first | (rw [hy107]; with_reducible exact H) | (have H2_ := (Option.bind_some _ _).symm.trans H; rw [hy107]; with_reducible exact H2_) | (have H2_ := (Option.bind_some _ _).symm.trans H; with_reducible exact H2_) | with_reducible exact H | (rw [hy107]; exact H) | exact H
 have Ny107 := Aside0.mk hy107
 clear hy107
 obtain ⟨y110, hy110⟩ : ∃ y_ : List Int, y_ = (([0, 0, 0, 1, 2] : List Int)) := ⟨_, rfl⟩
 replace H : (some (([(⟨1, 0, ([] : List Int), (⟨0, 0, (⟨#[]⟩ : ByteArray), 0, ([] : List Int)⟩ : S35), (⟨0, 0, 0, ([] : List Int)⟩ : S44)⟩ : S64), (⟨2, 0, y101, (⟨0, 0, (⟨#[]⟩ : ByteArray), 0, ([] : List Int)⟩ : S35), (⟨0, 0, 0, ([] : List Int)⟩ : S44)⟩ : S64), (⟨2, 0, y104, (⟨0, 0, (⟨#[]⟩ : ByteArray), 0, ([] : List Int)⟩ : S35), (⟨0, 0, 0, ([] : List Int)⟩ : S44)⟩ : S64), (⟨4, 0, ([] : List Int), (⟨0, 0, (⟨#[]⟩ : ByteArray), 0, ([] : List Int)⟩ : S35), (⟨0, 0, 0, ([] : List Int)⟩ : S44)⟩ : S64), (⟨5, 0, ([] : List Int), (⟨1, 1, (⟨#[97]⟩ : ByteArray), 0, y107⟩ : S35), (⟨0, 0, 0, ([] : List Int)⟩ : S44)⟩ : S64), (⟨6, 0, ([] : List Int), (⟨0, 0, (⟨#[]⟩ : ByteArray), 0, ([] : List Int)⟩ : S35), (⟨4, 1, 2, ([] : List Int)⟩ : S44)⟩ : S64), (⟨7, 0, y110, (⟨0, 0, (⟨#[]⟩ : ByteArray), 0, ([] : List Int)⟩ : S35), (⟨0, 0, 0, ([] : List Int)⟩ : S44)⟩ : S64)] : List (S64)))) = some r := by first | (rw [hy110]; with_reducible exact H) | (have H2_ := (Option.bind_some _ _).symm.trans H; rw [hy110]; with_reducible exact H2_) | (have H2_ := (Option.bind_some _ _).symm.trans H; with_reducible exact H2_) | with_reducible exact H | (rw [hy110]; exact H) | exact H
 have Ny110 := Aside0.mk hy110
 clear hy110
 obtain ⟨y113, hy113⟩ : ∃ y_ : List (S64), y_ = (([(⟨1, 0, ([] : List Int), (⟨0, 0, (⟨#[]⟩ : ByteArray), 0, ([] : List Int)⟩ : S35), (⟨0, 0, 0, ([] : List Int)⟩ : S44)⟩ : S64), (⟨2, 0, y101, (⟨0, 0, (⟨#[]⟩ : ByteArray), 0, ([] : List Int)⟩ : S35), (⟨0, 0, 0, ([] : List Int)⟩ : S44)⟩ : S64), (⟨2, 0, y104, (⟨0, 0, (⟨#[]⟩ : ByteArray), 0, ([] : List Int)⟩ : S35), (⟨0, 0, 0, ([] : List Int)⟩ : S44)⟩ : S64), (⟨4, 0, ([] : List Int), (⟨0, 0, (⟨#[]⟩ : ByteArray), 0, ([] : List Int)⟩ : S35), (⟨0, 0, 0, ([] : List Int)⟩ : S44)⟩ : S64), (⟨5, 0, ([] : List Int), (⟨1, 1, (⟨#[97]⟩ : ByteArray), 0, y107⟩ : S35), (⟨0, 0, 0, ([] : List Int)⟩ : S44)⟩ : S64), (⟨6, 0, ([] : List Int), (⟨0, 0, (⟨#[]⟩ : ByteArray), 0, ([] : List Int)⟩ : S35), (⟨4, 1, 2, ([] : List Int)⟩ : S44)⟩ : S64), (⟨7, 0, y110, (⟨0, 0, (⟨#[]⟩ : ByteArray), 0, ([] : List Int)⟩ : S35), (⟨0, 0, 0, ([] : List Int)⟩ : S44)⟩ : S64)] : List (S64))) := ⟨_, rfl⟩
 replace H : (some y113) = some r := by first | (rw [hy113]; with_reducible exact H) | (have H2_ := (Option.bind_some _ _).symm.trans H; rw [hy113]; with_reducible exact H2_) | (have H2_ := (Option.bind_some _ _).symm.trans H; with_reducible exact H2_) | with_reducible exact H | (rw [hy113]; exact H) | exact H
 have Ny113 := Aside0.mk hy113
 clear hy113
 obtain rfl := Option.some.inj H
 go_enter Try.func19, Try.ntmps19
 go_wp2_with (first | ((with_reducible refine gate_dst (N := 2) rfl ?_); refine Kd.R_lit (Kd.int .u8) _ 5 ?hg (N := 2) ?hd (xs := ([0, 0, 0, 3, 3, 0] : List Int)) (inner := [.int .u8 0, .int .u8 0, .int .u8 0, .int .u8 3, .int .u8 3, .int .u8 0]) (ok := fun _ => True) (okp := fun _ => True) ?hr ?hp (fun _ hk => hk) trivial (Below.refl _ _) (Nat.le_refl _) (by simp) ?_; (case hd => rfl); (case hg => rfl); (case hr => first | (go_simp; done) | (go_simp; rfl)); (case hp => exact (Reps.one (show Kd.M (Kd.int .u8) _ _ _ 0 [.int .u8 0] from rfl) (Reps.one (show Kd.M (Kd.int .u8) _ _ _ 0 [.int .u8 0] from rfl) (Reps.one (show Kd.M (Kd.int .u8) _ _ _ 0 [.int .u8 0] from rfl) (Reps.one (show Kd.M (Kd.int .u8) _ _ _ 3 [.int .u8 3] from rfl) (Reps.one (show Kd.M (Kd.int .u8) _ _ _ 3 [.int .u8 3] from rfl) (Reps.one (show Kd.M (Kd.int .u8) _ _ _ 0 [.int .u8 0] from rfl) (Reps.none _ _)))))))); intro v102 w1 ho2 hb hg_ hnew_; clear hg_ hnew_; (first | rw [← Ny101.out] at ho2 | (simp only [Int.reduceToNat] at ho2; rw [← Ny101.out] at ho2)); have n0_ := Aside0.mk (Kd.R_lower (Kd.R_newM (M := fun k_ => (w.heap.size ≤ k_)) ho2 (below_size (by repeat (first | (with_reducible first | exact HB.out | apply below_alloc | apply pw_below_drewN | apply below_drew1) | exact HB.out))) (fun k_ h_ => h_)) (below_size (by repeat (first | (with_reducible first | exact HB.out | apply below_alloc | apply pw_below_drewN | apply below_drew1) | exact HB.out)))); have n1_ := Aside0.mk (below_step (by repeat (first | (with_reducible first | exact HB.out | apply below_alloc | apply pw_below_drewN | apply below_drew1) | exact HB.out)) hb); clear HB; have HO103 := n0_; have HB := n1_; clear n0_ n1_; clear hb ho2; obtain ⟨Ao3, co3, eo3⟩ := Kd.R_slice HO103.out; subst eo3) | ((with_reducible refine gate_dst (N := 4) rfl ?_); refine Kd.R_lit (Kd.int .u8) _ 5 ?hg (N := 4) ?hd (xs := ([5, 0, 0] : List Int)) (inner := [.int .u8 5, .int .u8 0, .int .u8 0]) (ok := fun _ => True) (okp := fun _ => True) ?hr ?hp (fun _ hk => hk) trivial (Below.refl _ _) (Nat.le_refl _) (by simp) ?_; (case hd => rfl); (case hg => rfl); (case hr => first | (go_simp; done) | (go_simp; rfl)); (case hp => exact (Reps.one (show Kd.M (Kd.int .u8) _ _ _ 5 [.int .u8 5] from rfl) (Reps.one (show Kd.M (Kd.int .u8) _ _ _ 0 [.int .u8 0] from rfl) (Reps.one (show Kd.M (Kd.int .u8) _ _ _ 0 [.int .u8 0] from rfl) (Reps.none _ _))))); intro v105 w4 ho5 hb hg_ hnew_; clear hg_ hnew_; (first | rw [← Ny104.out] at ho5 | (simp only [Int.reduceToNat] at ho5; rw [← Ny104.out] at ho5)); have n0_ := Aside0.mk (Kd.R_elder' (by (with_reducible repeat (first | apply Kd.R_alloc | apply Kd.R_drewN | apply Kd.R_drew)); exact HO103.out) (Kd.R_base ho5) hb); have n1_ := Aside0.mk (Kd.R_lower (Kd.R_new' (Kd.R_newM (M := fun k_ => (w.heap.size ≤ k_)) ho5 (below_size (by repeat (first | (with_reducible first | exact HB.out | apply below_alloc | apply pw_below_drewN | apply below_drew1) | exact HB.out))) (fun k_ h_ => h_)) (Kd.R_lt (by (with_reducible repeat (first | apply Kd.R_alloc | apply Kd.R_drewN | apply Kd.R_drew)); exact HO103.out))) (below_size (by repeat (first | (with_reducible first | exact HB.out | apply below_alloc | apply pw_below_drewN | apply below_drew1) | exact HB.out)))); have n2_ := Aside0.mk (below_step (by repeat (first | (with_reducible first | exact HB.out | apply below_alloc | apply pw_below_drewN | apply below_drew1) | exact HB.out)) hb); clear HO103; clear HB; have HO103 := n0_; have HO106 := n1_; have HB := n2_; clear n0_ n1_ n2_; clear hb ho5; obtain ⟨Ao6, co6, eo6⟩ := Kd.R_slice HO106.out; subst eo6) | ((with_reducible refine gate_dst (N := 7) rfl ?_); refine Kd.R_lit (Kd.int .u8) _ 5 ?hg (N := 7) ?hd (xs := ([9] : List Int)) (inner := [.int .u8 9]) (ok := fun _ => True) (okp := fun _ => True) ?hr ?hp (fun _ hk => hk) trivial (Below.refl _ _) (Nat.le_refl _) (by simp) ?_; (case hd => rfl); (case hg => rfl); (case hr => first | (go_simp; done) | (go_simp; rfl)); (case hp => exact (Reps.one (show Kd.M (Kd.int .u8) _ _ _ 9 [.int .u8 9] from rfl) (Reps.none _ _))); intro v108 w7 ho8 hb hg_ hnew_; clear hg_ hnew_; (first | rw [← Ny107.out] at ho8 | (simp only [Int.reduceToNat] at ho8; rw [← Ny107.out] at ho8)); have n0_ := Aside0.mk (Kd.R_elder' (by (with_reducible repeat (first | apply Kd.R_alloc | apply Kd.R_drewN | apply Kd.R_drew)); exact HO103.out) (Kd.R_base ho8) hb); have n1_ := Aside0.mk (Kd.R_elder' (by (with_reducible repeat (first | apply Kd.R_alloc | apply Kd.R_drewN | apply Kd.R_drew)); exact HO106.out) (Kd.R_base ho8) hb); have n2_ := Aside0.mk (Kd.R_lower (Kd.R_new' (Kd.R_new' (Kd.R_newM (M := fun k_ => (w.heap.size ≤ k_)) ho8 (below_size (by repeat (first | (with_reducible first | exact HB.out | apply below_alloc | apply pw_below_drewN | apply below_drew1) | exact HB.out))) (fun k_ h_ => h_)) (Kd.R_lt (by (with_reducible repeat (first | apply Kd.R_alloc | apply Kd.R_drewN | apply Kd.R_drew)); exact HO103.out))) (Kd.R_lt (by (with_reducible repeat (first | apply Kd.R_alloc | apply Kd.R_drewN | apply Kd.R_drew)); exact HO106.out))) (below_size (by repeat (first | (with_reducible first | exact HB.out | apply below_alloc | apply pw_below_drewN | apply below_drew1) | exact HB.out)))); have n3_ := Aside0.mk (below_step (by repeat (first | (with_reducible first | exact HB.out | apply below_alloc | apply pw_below_drewN | apply below_drew1) | exact HB.out)) hb); clear HO103; clear HO106; clear HB; have HO103 := n0_; have HO106 := n1_; have HO109 := n2_; have HB := n3_; clear n0_ n1_ n2_ n3_; clear hb ho8; obtain ⟨Ao9, co9, eo9⟩ := Kd.R_slice HO109.out; subst eo9) | ((with_reducible refine gate_dst (N := 12) rfl ?_); refine Kd.R_lit (Kd.int .u8) _ 5 ?hg (N := 12) ?hd (xs := ([0, 0, 0, 1, 2] : List Int)) (inner := [.int .u8 0, .int .u8 0, .int .u8 0, .int .u8 1, .int .u8 2]) (ok := fun _ => True) (okp := fun _ => True) ?hr ?hp (fun _ hk => hk) trivial (Below.refl _ _) (Nat.le_refl _) (by simp) ?_; (case hd => rfl); (case hg => rfl); (case hr => first | (go_simp; done) | (go_simp; rfl)); (case hp => exact (Reps.one (show Kd.M (Kd.int .u8) _ _ _ 0 [.int .u8 0] from rfl) (Reps.one (show Kd.M (Kd.int .u8) _ _ _ 0 [.int .u8 0] from rfl) (Reps.one (show Kd.M (Kd.int .u8) _ _ _ 0 [.int .u8 0] from rfl) (Reps.one (show Kd.M (Kd.int .u8) _ _ _ 1 [.int .u8 1] from rfl) (Reps.one (show Kd.M (Kd.int .u8) _ _ _ 2 [.int .u8 2] from rfl) (Reps.none _ _))))))); intro v111 w10 ho11 hb hg_ hnew_; clear hg_ hnew_; (first | rw [← Ny110.out] at ho11 | (simp only [Int.reduceToNat] at ho11; rw [← Ny110.out] at ho11)); have n0_ := Aside0.mk (Kd.R_elder' (by (with_reducible repeat (first | apply Kd.R_alloc | apply Kd.R_drewN | apply Kd.R_drew)); exact HO103.out) (Kd.R_base ho11) hb); have n1_ := Aside0.mk (Kd.R_elder' (by (with_reducible repeat (first | apply Kd.R_alloc | apply Kd.R_drewN | apply Kd.R_drew)); exact HO106.out) (Kd.R_base ho11) hb); have n2_ := Aside0.mk (Kd.R_elder' (by (with_reducible repeat (first | apply Kd.R_alloc | apply Kd.R_drewN | apply Kd.R_drew)); exact HO109.out) (Kd.R_base ho11) hb); have n3_ := Aside0.mk (Kd.R_lower (Kd.R_new' (Kd.R_new' (Kd.R_new' (Kd.R_newM (M := fun k_ => (w.heap.size ≤ k_)) ho11 (below_size (by repeat (first | (with_reducible first | exact HB.out | apply below_alloc | apply pw_below_drewN | apply below_drew1) | exact HB.out))) (fun k_ h_ => h_)) (Kd.R_lt (by (with_reducible repeat (first | apply Kd.R_alloc | apply Kd.R_drewN | apply Kd.R_drew)); exact HO103.out))) (Kd.R_lt (by (with_reducible repeat (first | apply Kd.R_alloc | apply Kd.R_drewN | apply Kd.R_drew)); exact HO106.out))) (Kd.R_lt (by (with_reducible repeat (first | apply Kd.R_alloc | apply Kd.R_drewN | apply Kd.R_drew)); exact HO109.out))) (below_size (by repeat (first | (with_reducible first | exact HB.out | apply below_alloc | apply pw_below_drewN | apply below_drew1) | exact HB.out)))); have n4_ := Aside0.mk (below_step (by repeat (first | (with_reducible first | exact HB.out | apply below_alloc | apply pw_below_drewN | apply below_drew1) | exact HB.out)) hb); clear HO103; clear HO106; clear HO109; clear HB; have HO103 := n0_; have HO106 := n1_; have HO109 := n2_; have HO112 := n3_; have HB := n4_; clear n0_ n1_ n2_ n3_ n4_; clear hb ho11; obtain ⟨Ao12, co12, eo12⟩ := Kd.R_slice HO112.out; subst eo12) | ((with_reducible refine gate_dst (N := 14) rfl ?_); refine Kd.N_lit k64 _ 64 ?hg (N' := 14) ?hd (xs := ([(⟨1, 0, ([] : List Int), (⟨0, 0, (⟨#[]⟩ : ByteArray), 0, ([] : List Int)⟩ : S35), (⟨0, 0, 0, ([] : List Int)⟩ : S44)⟩ : S64), (⟨2, 0, y101, (⟨0, 0, (⟨#[]⟩ : ByteArray), 0, ([] : List Int)⟩ : S35), (⟨0, 0, 0, ([] : List Int)⟩ : S44)⟩ : S64), (⟨2, 0, y104, (⟨0, 0, (⟨#[]⟩ : ByteArray), 0, ([] : List Int)⟩ : S35), (⟨0, 0, 0, ([] : List Int)⟩ : S44)⟩ : S64), (⟨4, 0, ([] : List Int), (⟨0, 0, (⟨#[]⟩ : ByteArray), 0, ([] : List Int)⟩ : S35), (⟨0, 0, 0, ([] : List Int)⟩ : S44)⟩ : S64), (⟨5, 0, ([] : List Int), (⟨1, 1, (⟨#[97]⟩ : ByteArray), 0, y107⟩ : S35), (⟨0, 0, 0, ([] : List Int)⟩ : S44)⟩ : S64), (⟨6, 0, ([] : List Int), (⟨0, 0, (⟨#[]⟩ : ByteArray), 0, ([] : List Int)⟩ : S35), (⟨4, 1, 2, ([] : List Int)⟩ : S44)⟩ : S64), (⟨7, 0, y110, (⟨0, 0, (⟨#[]⟩ : ByteArray), 0, ([] : List Int)⟩ : S35), (⟨0, 0, 0, ([] : List Int)⟩ : S44)⟩ : S64)] : List (S64))) (inner := [.int .i64 1, .int .i64 0, .slice none 0 0, .int .i64 0, .int .i64 0, .string (⟨#[]⟩ : ByteArray), .int .i64 0, .slice none 0 0, .int .i64 0, .int .i64 0, .int .i64 0, .slice none 0 0, .int .i64 2, .int .i64 0, .slice Ao3 y101.length co3, .int .i64 0, .int .i64 0, .string (⟨#[]⟩ : ByteArray), .int .i64 0, .slice none 0 0, .int .i64 0, .int .i64 0, .int .i64 0, .slice none 0 0, .int .i64 2, .int .i64 0, .slice Ao6 y104.length co6, .int .i64 0, .int .i64 0, .string (⟨#[]⟩ : ByteArray), .int .i64 0, .slice none 0 0, .int .i64 0, .int .i64 0, .int .i64 0, .slice none 0 0, .int .i64 4, .int .i64 0, .slice none 0 0, .int .i64 0, .int .i64 0, .string (⟨#[]⟩ : ByteArray), .int .i64 0, .slice none 0 0, .int .i64 0, .int .i64 0, .int .i64 0, .slice none 0 0, .int .i64 5, .int .i64 0, .slice none 0 0, .int .i64 1, .int .i64 1, .string (⟨#[97]⟩ : ByteArray), .int .i64 0, .slice Ao9 y107.length co9, .int .i64 0, .int .i64 0, .int .i64 0, .slice none 0 0, .int .i64 6, .int .i64 0, .slice none 0 0, .int .i64 0, .int .i64 0, .string (⟨#[]⟩ : ByteArray), .int .i64 0, .slice none 0 0, .int .i64 4, .int .i64 1, .int .i64 2, .slice none 0 0, .int .i64 7, .int .i64 0, .slice Ao12 y110.length co12, .int .i64 0, .int .i64 0, .string (⟨#[]⟩ : ByteArray), .int .i64 0, .slice none 0 0, .int .i64 0, .int .i64 0, .int .i64 0, .slice none 0 0]) (ok := (fun k_ => (w.heap.size ≤ k_))) (okp := (fun k_ => (w.heap.size ≤ k_))) ?hr ?hp (fun _ hk => hk) ((show ∀ k_, w10.heap.size ≤ k_ → (fun k_ => (w.heap.size ≤ k_)) k_ from fun k_ hk => (Nat.le_trans (below_size (by repeat (first | (with_reducible first | exact HB.out | apply below_alloc | apply pw_below_drewN | apply below_drew1) | exact HB.out))) hk)) _ (Nat.le_refl _)) (Below.refl _ _) (Nat.le_refl _) (by simp) ?_; (case hd => rfl); (case hg => rfl); (case hr => first | (go_simp; done) | (go_simp; rfl)); (case hp => exact (Reps.front (show Kd.FK k64 _ _ (⟨1, 0, ([] : List Int), (⟨0, 0, (⟨#[]⟩ : ByteArray), 0, ([] : List Int)⟩ : S35), (⟨0, 0, 0, ([] : List Int)⟩ : S44)⟩ : S64) [.int .i64 1, .int .i64 0, .slice none 0 0, .int .i64 0, .int .i64 0, .string (⟨#[]⟩ : ByteArray), .int .i64 0, .slice none 0 0, .int .i64 0, .int .i64 0, .int .i64 0, .slice none 0 0] from (k64_mkF _ _ (⟨1, 0, ([] : List Int), (⟨0, 0, (⟨#[]⟩ : ByteArray), 0, ([] : List Int)⟩ : S35), (⟨0, 0, 0, ([] : List Int)⟩ : S44)⟩ : S64) (Nat.le_refl _) (Kd.F_nil _ _ _) (Nat.le_refl _) (Kd.F_nil _ _ _) (Nat.le_refl _) (Kd.F_nil _ _ _))) rfl (Reps.front (show Kd.FK k64 _ _ (⟨2, 0, y101, (⟨0, 0, (⟨#[]⟩ : ByteArray), 0, ([] : List Int)⟩ : S35), (⟨0, 0, 0, ([] : List Int)⟩ : S44)⟩ : S64) [.int .i64 2, .int .i64 0, .slice Ao3 y101.length co3, .int .i64 0, .int .i64 0, .string (⟨#[]⟩ : ByteArray), .int .i64 0, .slice none 0 0, .int .i64 0, .int .i64 0, .int .i64 0, .slice none 0 0] from (k64_mkF _ _ (⟨2, 0, y101, (⟨0, 0, (⟨#[]⟩ : ByteArray), 0, ([] : List Int)⟩ : S35), (⟨0, 0, 0, ([] : List Int)⟩ : S44)⟩ : S64) (Kd.R_reads' (Kd.R_mono (ok' := (fun k_ => (w.heap.size ≤ k_))) (HO103.out) (fun k_ hk => hk.1.1.1.1))).2.1 (Kd.R_F (Kd.R_mono (ok' := (fun k_ => (w.heap.size ≤ k_))) (HO103.out) (fun k_ hk => hk.1.1.1.1))) (Nat.le_refl _) (Kd.F_nil _ _ _) (Nat.le_refl _) (Kd.F_nil _ _ _))) rfl (Reps.front (show Kd.FK k64 _ _ (⟨2, 0, y104, (⟨0, 0, (⟨#[]⟩ : ByteArray), 0, ([] : List Int)⟩ : S35), (⟨0, 0, 0, ([] : List Int)⟩ : S44)⟩ : S64) [.int .i64 2, .int .i64 0, .slice Ao6 y104.length co6, .int .i64 0, .int .i64 0, .string (⟨#[]⟩ : ByteArray), .int .i64 0, .slice none 0 0, .int .i64 0, .int .i64 0, .int .i64 0, .slice none 0 0] from (k64_mkF _ _ (⟨2, 0, y104, (⟨0, 0, (⟨#[]⟩ : ByteArray), 0, ([] : List Int)⟩ : S35), (⟨0, 0, 0, ([] : List Int)⟩ : S44)⟩ : S64) (Kd.R_reads' (Kd.R_mono (ok' := (fun k_ => (w.heap.size ≤ k_))) (HO106.out) (fun k_ hk => hk.1.1.1.1))).2.1 (Kd.R_F (Kd.R_mono (ok' := (fun k_ => (w.heap.size ≤ k_))) (HO106.out) (fun k_ hk => hk.1.1.1.1))) (Nat.le_refl _) (Kd.F_nil _ _ _) (Nat.le_refl _) (Kd.F_nil _ _ _))) rfl (Reps.front (show Kd.FK k64 _ _ (⟨4, 0, ([] : List Int), (⟨0, 0, (⟨#[]⟩ : ByteArray), 0, ([] : List Int)⟩ : S35), (⟨0, 0, 0, ([] : List Int)⟩ : S44)⟩ : S64) [.int .i64 4, .int .i64 0, .slice none 0 0, .int .i64 0, .int .i64 0, .string (⟨#[]⟩ : ByteArray), .int .i64 0, .slice none 0 0, .int .i64 0, .int .i64 0, .int .i64 0, .slice none 0 0] from (k64_mkF _ _ (⟨4, 0, ([] : List Int), (⟨0, 0, (⟨#[]⟩ : ByteArray), 0, ([] : List Int)⟩ : S35), (⟨0, 0, 0, ([] : List Int)⟩ : S44)⟩ : S64) (Nat.le_refl _) (Kd.F_nil _ _ _) (Nat.le_refl _) (Kd.F_nil _ _ _) (Nat.le_refl _) (Kd.F_nil _ _ _))) rfl (Reps.front (show Kd.FK k64 _ _ (⟨5, 0, ([] : List Int), (⟨1, 1, (⟨#[97]⟩ : ByteArray), 0, y107⟩ : S35), (⟨0, 0, 0, ([] : List Int)⟩ : S44)⟩ : S64) [.int .i64 5, .int .i64 0, .slice none 0 0, .int .i64 1, .int .i64 1, .string (⟨#[97]⟩ : ByteArray), .int .i64 0, .slice Ao9 y107.length co9, .int .i64 0, .int .i64 0, .int .i64 0, .slice none 0 0] from (k64_mkF _ _ (⟨5, 0, ([] : List Int), (⟨1, 1, (⟨#[97]⟩ : ByteArray), 0, y107⟩ : S35), (⟨0, 0, 0, ([] : List Int)⟩ : S44)⟩ : S64) (Nat.le_refl _) (Kd.F_nil _ _ _) (Kd.R_reads' (Kd.R_mono (ok' := (fun k_ => (w.heap.size ≤ k_))) (HO109.out) (fun k_ hk => hk.1.1.1.1))).2.1 (Kd.R_F (Kd.R_mono (ok' := (fun k_ => (w.heap.size ≤ k_))) (HO109.out) (fun k_ hk => hk.1.1.1.1))) (Nat.le_refl _) (Kd.F_nil _ _ _))) rfl (Reps.front (show Kd.FK k64 _ _ (⟨6, 0, ([] : List Int), (⟨0, 0, (⟨#[]⟩ : ByteArray), 0, ([] : List Int)⟩ : S35), (⟨4, 1, 2, ([] : List Int)⟩ : S44)⟩ : S64) [.int .i64 6, .int .i64 0, .slice none 0 0, .int .i64 0, .int .i64 0, .string (⟨#[]⟩ : ByteArray), .int .i64 0, .slice none 0 0, .int .i64 4, .int .i64 1, .int .i64 2, .slice none 0 0] from (k64_mkF _ _ (⟨6, 0, ([] : List Int), (⟨0, 0, (⟨#[]⟩ : ByteArray), 0, ([] : List Int)⟩ : S35), (⟨4, 1, 2, ([] : List Int)⟩ : S44)⟩ : S64) (Nat.le_refl _) (Kd.F_nil _ _ _) (Nat.le_refl _) (Kd.F_nil _ _ _) (Nat.le_refl _) (Kd.F_nil _ _ _))) rfl (Reps.front (show Kd.FK k64 _ _ (⟨7, 0, y110, (⟨0, 0, (⟨#[]⟩ : ByteArray), 0, ([] : List Int)⟩ : S35), (⟨0, 0, 0, ([] : List Int)⟩ : S44)⟩ : S64) [.int .i64 7, .int .i64 0, .slice Ao12 y110.length co12, .int .i64 0, .int .i64 0, .string (⟨#[]⟩ : ByteArray), .int .i64 0, .slice none 0 0, .int .i64 0, .int .i64 0, .int .i64 0, .slice none 0 0] from (k64_mkF _ _ (⟨7, 0, y110, (⟨0, 0, (⟨#[]⟩ : ByteArray), 0, ([] : List Int)⟩ : S35), (⟨0, 0, 0, ([] : List Int)⟩ : S44)⟩ : S64) (Kd.R_reads' (Kd.R_mono (ok' := (fun k_ => (w.heap.size ≤ k_))) (HO112.out) (fun k_ hk => hk.1.1.1.1))).2.1 (Kd.R_F (Kd.R_mono (ok' := (fun k_ => (w.heap.size ≤ k_))) (HO112.out) (fun k_ hk => hk.1.1.1.1))) (Nat.le_refl _) (Kd.F_nil _ _ _) (Nat.le_refl _) (Kd.F_nil _ _ _))) rfl (Reps.none _ _) rfl) rfl) rfl) rfl) rfl) rfl) rfl)); intro v114 w13 ho14 hb hg_ hnew_; clear hg_ hnew_; (first | rw [← Ny113.out] at ho14 | (simp only [Int.reduceToNat] at ho14; rw [← Ny113.out] at ho14)); have n0_ := Aside0.mk (Kd.N_lower ho14 (below_size (by repeat (first | (with_reducible first | exact HB.out | apply below_alloc | apply pw_below_drewN | apply below_drew1) | exact HB.out)))); have n1_ := Aside0.mk (below_step (by repeat (first | (with_reducible first | exact HB.out | apply below_alloc | apply pw_below_drewN | apply below_drew1) | exact HB.out)) hb); clear HB; clear HO103; clear HO106; clear HO109; clear HO112; have HO115 := n0_; have HB := n1_; clear n0_ n1_; clear hb ho14))
 go_ret
 exact ⟨_, by first | rfl | (simp [errW_none, errW_some] <;> rfl) | (simp [*, errW_none, errW_some] <;> rfl), by (with_reducible repeat (first | apply Kd.N_alloc | apply Kd.N_drewN | apply Kd.N_drew)); exact HO115.out, by repeat (first | (with_reducible first | exact HB.out | apply below_alloc | apply pw_below_drewN | apply below_drew1) | exact HB.out)⟩
def IsS67 (w0 W : World) (g : Nat) (f0 : List Int) (f1 : Bool) : Prop := ∃ A0 c0, W.heap[g]? = some (.cells #[.slice A0 f0.length c0, .bool f1] 67 (0, 0)) ∧ w0.heap.size ≤ g ∧ Kd.C (Kd.int .u8) w0 A0 f0.length f0
theorem IsS67.grown {w0 W : World} {g : Nat} {f0 : List Int} {f1 : Bool} {W1 : World} {row : Option Nat} (h : IsS67 w0 W g f0 f1) (hw : W.grownBy W1 row) (hne : some g ≠ row) : IsS67 w0 W1 g f0 f1 := by
 obtain ⟨A0, c0, hb, hg, hr0⟩ := h
 exact ⟨A0, c0, blk_grown hb hw hne, hg, hr0⟩
theorem IsS67.below {w0 W : World} {g : Nat} {f0 : List Int} {f1 : Bool} {W1 : World} (h : IsS67 w0 W g f0 f1) (hw : Below W.heap.size W W1) : IsS67 w0 W1 g f0 f1 := h.grown (grown_of_below hw none) (by simp)
theorem IsS67.alloc {w0 W : World} {g : Nat} {f0 : List Int} {f1 : Bool} (h : IsS67 w0 W g f0 f1) (o : Obj) : IsS67 w0 (W.alloc o) g f0 f1 := h.below (below_alloc (Below.refl _ _) o)
theorem IsS67.new (w0 W : World) (A0 : Option Addr) (c0 : Nat) (f0 : List Int) (f1 : Bool) (hB : Below w0.heap.size w0 W) (hr0 : Kd.C (Kd.int .u8) w0 A0 f0.length f0) : IsS67 w0 (W.alloc (.cells #[.slice A0 f0.length c0, .bool f1] 67)) W.heap.size f0 f1 := ⟨A0, c0, by simpa using heap_alloc_new W _, hB.size, hr0⟩
def IsS106 (w0 W : World) (g : Nat) (f0 : List Int) (f1 : Bool) : Prop := ∃ A0 c0, W.heap[g]? = some (.cells #[.slice A0 f0.length c0, .bool f1] 106 (0, 0)) ∧ w0.heap.size ≤ g ∧ Kd.C (Kd.int .u8) w0 A0 f0.length f0
theorem IsS106.grown {w0 W : World} {g : Nat} {f0 : List Int} {f1 : Bool} {W1 : World} {row : Option Nat} (h : IsS106 w0 W g f0 f1) (hw : W.grownBy W1 row) (hne : some g ≠ row) : IsS106 w0 W1 g f0 f1 := by
 obtain ⟨A0, c0, hb, hg, hr0⟩ := h
 exact ⟨A0, c0, blk_grown hb hw hne, hg, hr0⟩
theorem IsS106.below {w0 W : World} {g : Nat} {f0 : List Int} {f1 : Bool} {W1 : World} (h : IsS106 w0 W g f0 f1) (hw : Below W.heap.size W W1) : IsS106 w0 W1 g f0 f1 := h.grown (grown_of_below hw none) (by simp)
theorem IsS106.alloc {w0 W : World} {g : Nat} {f0 : List Int} {f1 : Bool} (h : IsS106 w0 W g f0 f1) (o : Obj) : IsS106 w0 (W.alloc o) g f0 f1 := h.below (below_alloc (Below.refl _ _) o)
theorem IsS106.new (w0 W : World) (A0 : Option Addr) (c0 : Nat) (f0 : List Int) (f1 : Bool) (hB : Below w0.heap.size w0 W) (hr0 : Kd.C (Kd.int .u8) w0 A0 f0.length f0) : IsS106 w0 (W.alloc (.cells #[.slice A0 f0.length c0, .bool f1] 106)) W.heap.size f0 f1 := ⟨A0, c0, by simpa using heap_alloc_new W _, hB.size, hr0⟩
def arcaderef12_message.f (a0 : Int) : Option ((List (S129)) × Bool) := if a0 = 1 then (some ((([(⟨98, 84, 1, 8⟩ : S129), (⟨110, 65, 1, 16⟩ : S129), (⟨100, 68, 0, 262144⟩ : S129)] : List (S129))), true)) else (if a0 = 2 then (some ((([(⟨98, 78, 0, 255⟩ : S129)] : List (S129))), true)) else (if a0 = 3 then (some ((([(⟨119, 78, 1, 600⟩ : S129)] : List (S129))), true)) else (if a0 = 6 then (some ((([(⟨119, 78, 0, 65535⟩ : S129)] : List (S129))), true)) else (if a0 = 4 then (some (([] : List (S129)), true)) else (if a0 = 5 then (some (([] : List (S129)), true)) else (if a0 = 7 then (some (([] : List (S129)), true)) else (some (([] : List (S129)), false))))))))
set_option maxHeartbeats 8000000 in
set_option maxRecDepth 100000 in
theorem arcaderef12_message.calls (a0 : Int) (r1 : List (S129)) (r2 : Bool) (w : World) (h : arcaderef12_message.f a0 = some (r1, r2)) :
  Calls Try.prog 61 #[.int .i64 a0] w fun e w' => ∃ v0_ : Value, e = .returned (.tuple #[v0_, .bool r2]) ∧ Kd.R k129 129 w' w.heap.size (fun _ => True) v0_ r1 ∧ Below w.heap.size w w' := by
 have hu129 := Try.underlying129
 have HB := Aside0.mk (Below.refl w.heap.size w)
 have H : (if a0 = 1 then (some ((([(⟨98, 84, 1, 8⟩ : S129), (⟨110, 65, 1, 16⟩ : S129), (⟨100, 68, 0, 262144⟩ : S129)] : List (S129))), true)) else (if a0 = 2 then (some ((([(⟨98, 78, 0, 255⟩ : S129)] : List (S129))), true)) else (if a0 = 3 then (some ((([(⟨119, 78, 1, 600⟩ : S129)] : List (S129))), true)) else (if a0 = 6 then (some ((([(⟨119, 78, 0, 65535⟩ : S129)] : List (S129))), true)) else (if a0 = 4 then (some (([] : List (S129)), true)) else (if a0 = 5 then (some (([] : List (S129)), true)) else (if a0 = 7 then (some (([] : List (S129)), true)) else (some (([] : List (S129)), false))))))))) = some (r1, r2) := h
 clear h
 by_cases c2 : a0 = 1
 ·
  rw [if_pos c2] at H
  have c2b0 : (a0 == 1) = true := beq_iff_eq.mpr c2
  have c2b1 : (a0 != 1) = false := bne_eq_false_iff_eq.mpr c2
  clear c2
  obtain ⟨y124, hy124⟩ : ∃ y_ : List (S129), y_ = (([(⟨98, 84, 1, 8⟩ : S129), (⟨110, 65, 1, 16⟩ : S129), (⟨100, 68, 0, 262144⟩ : S129)] : List (S129))) := ⟨_, rfl⟩
  replace H : (some (y124, true)) = some (r1, r2) := by first | (rw [hy124]; with_reducible exact H) | (have H2_ := (Option.bind_some _ _).symm.trans H; rw [hy124]; with_reducible exact H2_) | (have H2_ := (Option.bind_some _ _).symm.trans H; with_reducible exact H2_) | with_reducible exact H | (rw [hy124]; exact H) | exact H
  have Ny124 := Aside0.mk hy124
  clear hy124
  simp only [Option.some.injEq, Prod.mk.injEq] at H
  obtain ⟨rfl, rfl⟩ := H
  go_enter Try.func61, Try.ntmps61
  go_wp2_with (first | ((with_reducible refine gate_dst (N := 10) rfl ?_); refine Kd.R_lit k129 _ 129 ?hg (N := 10) ?hd (xs := ([(⟨98, 84, 1, 8⟩ : S129), (⟨110, 65, 1, 16⟩ : S129), (⟨100, 68, 0, 262144⟩ : S129)] : List (S129))) (inner := [.int .u8 98, .int .u8 84, .int .i64 1, .int .i64 8, .int .u8 110, .int .u8 65, .int .i64 1, .int .i64 16, .int .u8 100, .int .u8 68, .int .i64 0, .int .i64 262144]) (ok := fun _ => True) (okp := fun _ => True) ?hr ?hp (fun _ hk => hk) trivial (Below.refl _ _) (Nat.le_refl _) (by simp) ?_; (case hd => rfl); (case hg => rfl); (case hr => first | (go_simp; done) | (go_simp; rfl)); (case hp => exact (Reps.c4 (show Kd.M k129 _ _ _ (⟨98, 84, 1, 8⟩ : S129) [.int .u8 98, .int .u8 84, .int .i64 1, .int .i64 8] from (k129_mkM _ _ _ (⟨98, 84, 1, 8⟩ : S129) )) (Reps.c4 (show Kd.M k129 _ _ _ (⟨110, 65, 1, 16⟩ : S129) [.int .u8 110, .int .u8 65, .int .i64 1, .int .i64 16] from (k129_mkM _ _ _ (⟨110, 65, 1, 16⟩ : S129) )) (Reps.c4 (show Kd.M k129 _ _ _ (⟨100, 68, 0, 262144⟩ : S129) [.int .u8 100, .int .u8 68, .int .i64 0, .int .i64 262144] from (k129_mkM _ _ _ (⟨100, 68, 0, 262144⟩ : S129) )) (Reps.none _ _))))); intro v125 w3 ho4 hb hg_ hnew_; clear hg_ hnew_; (first | rw [← Ny124.out] at ho4 | (simp only [Int.reduceToNat] at ho4; rw [← Ny124.out] at ho4)); have n0_ := Aside0.mk (Kd.R_lower ho4 (below_size (by repeat (first | (with_reducible first | exact HB.out | apply below_alloc | apply pw_below_drewN | apply below_drew1) | exact HB.out)))); have n1_ := Aside0.mk (below_step (by repeat (first | (with_reducible first | exact HB.out | apply below_alloc | apply pw_below_drewN | apply below_drew1) | exact HB.out)) hb); clear HB; have HO126 := n0_; have HB := n1_; clear n0_ n1_; clear hb ho4))
  go_ret2
  exact ⟨_, by first | rfl | (simp [errW_none, errW_some] <;> rfl) | (simp [*, errW_none, errW_some] <;> rfl), by (with_reducible repeat (first | apply Kd.R_alloc | apply Kd.R_drewN | apply Kd.R_drew)); exact HO126.out, by repeat (first | (with_reducible first | exact HB.out | apply below_alloc | apply pw_below_drewN | apply below_drew1) | exact HB.out)⟩
 ·
  rw [if_neg c2] at H
  have c2b0 : (a0 == 1) = false := beq_eq_false_iff_ne.mpr c2
  have c2b1 : (a0 != 1) = true := bne_iff_ne.mpr c2
  by_cases c5 : a0 = 2
  ·
   rw [if_pos c5] at H
   have c5b0 : (a0 == 2) = true := beq_iff_eq.mpr c5
   have c5b1 : (a0 != 2) = false := bne_eq_false_iff_eq.mpr c5
   clear c5
   obtain ⟨y127, hy127⟩ : ∃ y_ : List (S129), y_ = (([(⟨98, 78, 0, 255⟩ : S129)] : List (S129))) := ⟨_, rfl⟩
   replace H : (some (y127, true)) = some (r1, r2) := by first | (rw [hy127]; with_reducible exact H) | (have H2_ := (Option.bind_some _ _).symm.trans H; rw [hy127]; with_reducible exact H2_) | (have H2_ := (Option.bind_some _ _).symm.trans H; with_reducible exact H2_) | with_reducible exact H | (rw [hy127]; exact H) | exact H
   have Ny127 := Aside0.mk hy127
   clear hy127
   simp only [Option.some.injEq, Prod.mk.injEq] at H
   obtain ⟨rfl, rfl⟩ := H
   go_enter Try.func61, Try.ntmps61
   go_wp2_with (first | ((with_reducible refine gate_dst (N := 14) rfl ?_); refine Kd.R_lit k129 _ 129 ?hg (N := 14) ?hd (xs := ([(⟨98, 78, 0, 255⟩ : S129)] : List (S129))) (inner := [.int .u8 98, .int .u8 78, .int .i64 0, .int .i64 255]) (ok := fun _ => True) (okp := fun _ => True) ?hr ?hp (fun _ hk => hk) trivial (Below.refl _ _) (Nat.le_refl _) (by simp) ?_; (case hd => rfl); (case hg => rfl); (case hr => first | (go_simp; done) | (go_simp; rfl)); (case hp => exact (Reps.c4 (show Kd.M k129 _ _ _ (⟨98, 78, 0, 255⟩ : S129) [.int .u8 98, .int .u8 78, .int .i64 0, .int .i64 255] from (k129_mkM _ _ _ (⟨98, 78, 0, 255⟩ : S129) )) (Reps.none _ _))); intro v128 w6 ho7 hb hg_ hnew_; clear hg_ hnew_; (first | rw [← Ny127.out] at ho7 | (simp only [Int.reduceToNat] at ho7; rw [← Ny127.out] at ho7)); have n0_ := Aside0.mk (Kd.R_lower ho7 (below_size (by repeat (first | (with_reducible first | exact HB.out | apply below_alloc | apply pw_below_drewN | apply below_drew1) | exact HB.out)))); have n1_ := Aside0.mk (below_step (by repeat (first | (with_reducible first | exact HB.out | apply below_alloc | apply pw_below_drewN | apply below_drew1) | exact HB.out)) hb); clear HB; have HO129 := n0_; have HB := n1_; clear n0_ n1_; clear hb ho7))
   go_ret2
   exact ⟨_, by first | rfl | (simp [errW_none, errW_some] <;> rfl) | (simp [*, errW_none, errW_some] <;> rfl), by (with_reducible repeat (first | apply Kd.R_alloc | apply Kd.R_drewN | apply Kd.R_drew)); exact HO129.out, by repeat (first | (with_reducible first | exact HB.out | apply below_alloc | apply pw_below_drewN | apply below_drew1) | exact HB.out)⟩
  ·
   rw [if_neg c5] at H
   have c5b0 : (a0 == 2) = false := beq_eq_false_iff_ne.mpr c5
   have c5b1 : (a0 != 2) = true := bne_iff_ne.mpr c5
   by_cases c8 : a0 = 3
   ·
    rw [if_pos c8] at H
    have c8b0 : (a0 == 3) = true := beq_iff_eq.mpr c8
    have c8b1 : (a0 != 3) = false := bne_eq_false_iff_eq.mpr c8
    clear c8
    obtain ⟨y130, hy130⟩ : ∃ y_ : List (S129), y_ = (([(⟨119, 78, 1, 600⟩ : S129)] : List (S129))) := ⟨_, rfl⟩
    replace H : (some (y130, true)) = some (r1, r2) := by first | (rw [hy130]; with_reducible exact H) | (have H2_ := (Option.bind_some _ _).symm.trans H; rw [hy130]; with_reducible exact H2_) | (have H2_ := (Option.bind_some _ _).symm.trans H; with_reducible exact H2_) | with_reducible exact H | (rw [hy130]; exact H) | exact H
    have Ny130 := Aside0.mk hy130
    clear hy130
    simp only [Option.some.injEq, Prod.mk.injEq] at H
    obtain ⟨rfl, rfl⟩ := H
    go_enter Try.func61, Try.ntmps61
    go_wp2_with (first | ((with_reducible refine gate_dst (N := 18) rfl ?_); refine Kd.R_lit k129 _ 129 ?hg (N := 18) ?hd (xs := ([(⟨119, 78, 1, 600⟩ : S129)] : List (S129))) (inner := [.int .u8 119, .int .u8 78, .int .i64 1, .int .i64 600]) (ok := fun _ => True) (okp := fun _ => True) ?hr ?hp (fun _ hk => hk) trivial (Below.refl _ _) (Nat.le_refl _) (by simp) ?_; (case hd => rfl); (case hg => rfl); (case hr => first | (go_simp; done) | (go_simp; rfl)); (case hp => exact (Reps.c4 (show Kd.M k129 _ _ _ (⟨119, 78, 1, 600⟩ : S129) [.int .u8 119, .int .u8 78, .int .i64 1, .int .i64 600] from (k129_mkM _ _ _ (⟨119, 78, 1, 600⟩ : S129) )) (Reps.none _ _))); intro v131 w9 ho10 hb hg_ hnew_; clear hg_ hnew_; (first | rw [← Ny130.out] at ho10 | (simp only [Int.reduceToNat] at ho10; rw [← Ny130.out] at ho10)); have n0_ := Aside0.mk (Kd.R_lower ho10 (below_size (by repeat (first | (with_reducible first | exact HB.out | apply below_alloc | apply pw_below_drewN | apply below_drew1) | exact HB.out)))); have n1_ := Aside0.mk (below_step (by repeat (first | (with_reducible first | exact HB.out | apply below_alloc | apply pw_below_drewN | apply below_drew1) | exact HB.out)) hb); clear HB; have HO132 := n0_; have HB := n1_; clear n0_ n1_; clear hb ho10))
    go_ret2
    exact ⟨_, by first | rfl | (simp [errW_none, errW_some] <;> rfl) | (simp [*, errW_none, errW_some] <;> rfl), by (with_reducible repeat (first | apply Kd.R_alloc | apply Kd.R_drewN | apply Kd.R_drew)); exact HO132.out, by repeat (first | (with_reducible first | exact HB.out | apply below_alloc | apply pw_below_drewN | apply below_drew1) | exact HB.out)⟩
   ·
    rw [if_neg c8] at H
    have c8b0 : (a0 == 3) = false := beq_eq_false_iff_ne.mpr c8
    have c8b1 : (a0 != 3) = true := bne_iff_ne.mpr c8
    by_cases c11 : a0 = 6
    ·
     rw [if_pos c11] at H
     have c11b0 : (a0 == 6) = true := beq_iff_eq.mpr c11
     have c11b1 : (a0 != 6) = false := bne_eq_false_iff_eq.mpr c11
     clear c11
     obtain ⟨y133, hy133⟩ : ∃ y_ : List (S129), y_ = (([(⟨119, 78, 0, 65535⟩ : S129)] : List (S129))) := ⟨_, rfl⟩
     replace H : (some (y133, true)) = some (r1, r2) := by first | (rw [hy133]; with_reducible exact H) | (have H2_ := (Option.bind_some _ _).symm.trans H; rw [hy133]; with_reducible exact H2_) | (have H2_ := (Option.bind_some _ _).symm.trans H; with_reducible exact H2_) | with_reducible exact H | (rw [hy133]; exact H) | exact H
     have Ny133 := Aside0.mk hy133
     clear hy133
     simp only [Option.some.injEq, Prod.mk.injEq] at H
     obtain ⟨rfl, rfl⟩ := H
     go_enter Try.func61, Try.ntmps61
     go_wp2_with (first | ((with_reducible refine gate_dst (N := 22) rfl ?_); refine Kd.R_lit k129 _ 129 ?hg (N := 22) ?hd (xs := ([(⟨119, 78, 0, 65535⟩ : S129)] : List (S129))) (inner := [.int .u8 119, .int .u8 78, .int .i64 0, .int .i64 65535]) (ok := fun _ => True) (okp := fun _ => True) ?hr ?hp (fun _ hk => hk) trivial (Below.refl _ _) (Nat.le_refl _) (by simp) ?_; (case hd => rfl); (case hg => rfl); (case hr => first | (go_simp; done) | (go_simp; rfl)); (case hp => exact (Reps.c4 (show Kd.M k129 _ _ _ (⟨119, 78, 0, 65535⟩ : S129) [.int .u8 119, .int .u8 78, .int .i64 0, .int .i64 65535] from (k129_mkM _ _ _ (⟨119, 78, 0, 65535⟩ : S129) )) (Reps.none _ _))); intro v134 w12 ho13 hb hg_ hnew_; clear hg_ hnew_; (first | rw [← Ny133.out] at ho13 | (simp only [Int.reduceToNat] at ho13; rw [← Ny133.out] at ho13)); have n0_ := Aside0.mk (Kd.R_lower ho13 (below_size (by repeat (first | (with_reducible first | exact HB.out | apply below_alloc | apply pw_below_drewN | apply below_drew1) | exact HB.out)))); have n1_ := Aside0.mk (below_step (by repeat (first | (with_reducible first | exact HB.out | apply below_alloc | apply pw_below_drewN | apply below_drew1) | exact HB.out)) hb); clear HB; have HO135 := n0_; have HB := n1_; clear n0_ n1_; clear hb ho13))
     go_ret2
     exact ⟨_, by first | rfl | (simp [errW_none, errW_some] <;> rfl) | (simp [*, errW_none, errW_some] <;> rfl), by (with_reducible repeat (first | apply Kd.R_alloc | apply Kd.R_drewN | apply Kd.R_drew)); exact HO135.out, by repeat (first | (with_reducible first | exact HB.out | apply below_alloc | apply pw_below_drewN | apply below_drew1) | exact HB.out)⟩
    ·
     rw [if_neg c11] at H
     have c11b0 : (a0 == 6) = false := beq_eq_false_iff_ne.mpr c11
     have c11b1 : (a0 != 6) = true := bne_iff_ne.mpr c11
     by_cases c14 : a0 = 4
     ·
      rw [if_pos c14] at H
      have c14b0 : (a0 == 4) = true := beq_iff_eq.mpr c14
      have c14b1 : (a0 != 4) = false := bne_eq_false_iff_eq.mpr c14
      clear c14
      simp only [Option.some.injEq, Prod.mk.injEq] at H
      obtain ⟨rfl, rfl⟩ := H
      go_enter Try.func61, Try.ntmps61
      go_wp2
      go_ret2
      exact ⟨_, by first | rfl | (simp [errW_none, errW_some] <;> rfl) | (simp [*, errW_none, errW_some] <;> rfl), by first | exact Kd.R_nil _ _ _ _ _ | exact Kd.N_nil _ _ _ _ _ | exact Kd.V_nil _ _ _ _ _ | exact Kd.Q_nil _ _ _ _ _ | exact Kd.S_nil _ _ _ _ _, by repeat (first | (with_reducible first | exact HB.out | apply below_alloc | apply pw_below_drewN | apply below_drew1) | exact HB.out)⟩
     ·
      rw [if_neg c14] at H
      have c14b0 : (a0 == 4) = false := beq_eq_false_iff_ne.mpr c14
      have c14b1 : (a0 != 4) = true := bne_iff_ne.mpr c14
      by_cases c15 : a0 = 5
      ·
       rw [if_pos c15] at H
       have c15b0 : (a0 == 5) = true := beq_iff_eq.mpr c15
       have c15b1 : (a0 != 5) = false := bne_eq_false_iff_eq.mpr c15
       clear c15
       simp only [Option.some.injEq, Prod.mk.injEq] at H
       obtain ⟨rfl, rfl⟩ := H
       go_enter Try.func61, Try.ntmps61
       go_wp2
       go_ret2
       exact ⟨_, by first | rfl | (simp [errW_none, errW_some] <;> rfl) | (simp [*, errW_none, errW_some] <;> rfl), by first | exact Kd.R_nil _ _ _ _ _ | exact Kd.N_nil _ _ _ _ _ | exact Kd.V_nil _ _ _ _ _ | exact Kd.Q_nil _ _ _ _ _ | exact Kd.S_nil _ _ _ _ _, by repeat (first | (with_reducible first | exact HB.out | apply below_alloc | apply pw_below_drewN | apply below_drew1) | exact HB.out)⟩
      ·
       rw [if_neg c15] at H
       have c15b0 : (a0 == 5) = false := beq_eq_false_iff_ne.mpr c15
       have c15b1 : (a0 != 5) = true := bne_iff_ne.mpr c15
       by_cases c16 : a0 = 7
       ·
        rw [if_pos c16] at H
        have c16b0 : (a0 == 7) = true := beq_iff_eq.mpr c16
        have c16b1 : (a0 != 7) = false := bne_eq_false_iff_eq.mpr c16
        clear c16
        simp only [Option.some.injEq, Prod.mk.injEq] at H
        obtain ⟨rfl, rfl⟩ := H
        go_enter Try.func61, Try.ntmps61
        go_wp2
        go_ret2
        exact ⟨_, by first | rfl | (simp [errW_none, errW_some] <;> rfl) | (simp [*, errW_none, errW_some] <;> rfl), by first | exact Kd.R_nil _ _ _ _ _ | exact Kd.N_nil _ _ _ _ _ | exact Kd.V_nil _ _ _ _ _ | exact Kd.Q_nil _ _ _ _ _ | exact Kd.S_nil _ _ _ _ _, by repeat (first | (with_reducible first | exact HB.out | apply below_alloc | apply pw_below_drewN | apply below_drew1) | exact HB.out)⟩
       ·
        rw [if_neg c16] at H
        have c16b0 : (a0 == 7) = false := beq_eq_false_iff_ne.mpr c16
        have c16b1 : (a0 != 7) = true := bne_iff_ne.mpr c16
        simp only [Option.some.injEq, Prod.mk.injEq] at H
        obtain ⟨rfl, rfl⟩ := H
        go_enter Try.func61, Try.ntmps61
        go_wp2
        go_ret2
        exact ⟨_, by first | rfl | (simp [errW_none, errW_some] <;> rfl) | (simp [*, errW_none, errW_some] <;> rfl), by first | exact Kd.R_nil _ _ _ _ _ | exact Kd.N_nil _ _ _ _ _ | exact Kd.V_nil _ _ _ _ _ | exact Kd.Q_nil _ _ _ _ _ | exact Kd.S_nil _ _ _ _ _, by repeat (first | (with_reducible first | exact HB.out | apply below_alloc | apply pw_below_drewN | apply below_drew1) | exact HB.out)⟩
def arcaderef12_has.l0 : Nat → List (S129) → Int → Int → Option (Bool)
 | 0, _, _, _ => none
 | k + 1, x0, x1, x5 => if x5 < (x0.length : Int) then (if 0 ≤ x5 then (if ((rd_T129 x0 x5).f1) = x1 then (some true) else (arcaderef12_has.l0 k x0 x1 (wrap64 (x5 + 1)))) else (none)) else (some false)
def arcaderef12_has.f (k : Nat) (l0 : List (S129)) (a1 : Int) : Option (Bool) := arcaderef12_has.l0 k l0 a1 0
set_option maxHeartbeats 8000000 in
set_option maxRecDepth 100000 in
theorem arcaderef12_has.calls (k : Nat) (A0 : Option Addr) (c0 : Nat) (l0 : List (S129)) (a1 : Int) (r : Bool) (w : World) (hr0 : Kd.C k129 w A0 l0.length l0) (hc0 : l0.length ≤ c0) (h : arcaderef12_has.f k l0 a1 = some r) :
  Calls Try.prog 81 #[.slice A0 l0.length c0, .int .u8 a1] w fun e w' => e = .returned (.bool r) ∧ Drawn0 w w' := by
 have HR0 := Aside0.mk hr0
 have HC0 := Aside0.mk hc0
 clear hr0 hc0
 have H : (arcaderef12_has.l0 k l0 a1 0) = some r := h
 clear h
 have H' := Aside0.mk H
 clear H
 go_enter Try.func81, Try.ntmps81
 go_wp2
 go_loopg [5] k (fun kq v5 w' => ∃ (x5_1 : Int), v5 = .int .i64 x5_1 ∧ Aside0 (arcaderef12_has.l0 kq l0 a1 x5_1 = some r) ∧ Aside0 (kq ≤ k) ∧ Drawn0 w w')
 case atStart => exact ⟨(0), (by first | rfl | (simp; done) | (simp [*]; done)), H', ⟨Nat.le_refl _⟩, by repeat (first | exact Drawn0.refl _ | apply Drawn0.step)⟩
 case round =>
  clear H'
  try clear p2
  obtain ⟨x5_1, rfl, HA, HK1, ⟨m1, rfl⟩⟩ := hrel
  cases gk with
  | zero => exact absurd HA.out (by simp [arcaderef12_has.l0])
  | succ k1 =>
   have H := HA.out
   clear HA
   simp only [arcaderef12_has.l0] at H
   by_cases c3 : x5_1 < (l0.length : Int)
   ·
    rw [if_pos c3] at H
    have c3b0 : decide (x5_1 < (l0.length : Int)) = true := decide_eq_true c3
    clear c3
    by_cases c4 : 0 ≤ x5_1
    ·
     rw [if_pos c4] at H
     have c4b0 : decide (0 ≤ x5_1) = true := decide_eq_true c4
     clear c4
     by_cases c5 : ((rd_T129 l0 x5_1).f1) = a1
     ·
      rw [if_pos c5] at H
      have c5b0 : (((rd_T129 l0 x5_1).f1) == a1) = true := beq_iff_eq.mpr c5
      have c5b1 : (((rd_T129 l0 x5_1).f1) != a1) = false := bne_eq_false_iff_eq.mpr c5
      clear c5
      obtain rfl := Option.some.inj H
      have p136 : 0 ≤ (x5_1 : Int) := of_decide_eq_true (by first | (with_reducible assumption) | assumption)
      have q136 : x5_1 < (l0.length : Int) := of_decide_eq_true (by first | (with_reducible assumption) | assumption)
      obtain ⟨ad136, e136, hx136_0, hx136_1, hx136_2, hx136_3⟩ := at_T129 HR0.out x5_1 p136 q136
      cases e136
      replace p136 := eq_true p136
      replace q136 := eq_true q136
      go_wp2
      go_ret
      exact ⟨by first | rfl | (simp; done) | (simp [*]; done), by repeat (first | exact Drawn0.refl _ | apply Drawn0.step)⟩
     ·
      rw [if_neg c5] at H
      have c5b0 : (((rd_T129 l0 x5_1).f1) == a1) = false := beq_eq_false_iff_ne.mpr c5
      have c5b1 : (((rd_T129 l0 x5_1).f1) != a1) = true := bne_iff_ne.mpr c5
      have H' := Aside0.mk H
      clear H
      have p136 : 0 ≤ (x5_1 : Int) := of_decide_eq_true (by first | (with_reducible assumption) | assumption)
      have q136 : x5_1 < (l0.length : Int) := of_decide_eq_true (by first | (with_reducible assumption) | assumption)
      obtain ⟨ad136, e136, hx136_0, hx136_1, hx136_2, hx136_3⟩ := at_T129 HR0.out x5_1 p136 q136
      cases e136
      replace p136 := eq_true p136
      replace q136 := eq_true q136
      go_wp2
      go_roundg k1
      case measure => have := HK1.out; omega
      case rel => exact ⟨(wrap64 (x5_1 + 1)), (by first | rfl | (simp; done) | (simp [*]; done)), H', ⟨by have := HK1.out; omega⟩, by repeat (first | exact Drawn0.refl _ | apply Drawn0.step)⟩
    ·
     rw [if_neg c4] at H
     exact absurd H (by simp)
   ·
    rw [if_neg c3] at H
    have c3b0 : decide (x5_1 < (l0.length : Int)) = false := decide_eq_false c3
    clear c3
    obtain rfl := Option.some.inj H
    go_wp2
    go_ret
    exact ⟨by first | rfl | (simp; done) | (simp [*]; done), by repeat (first | exact Drawn0.refl _ | apply Drawn0.step)⟩
def arcaderef12_digits.l0 : Nat → Int → List Int → Int → Option (List Int)
 | 0, _, _, _ => none
 | k + 1, x0, x5, x6 => if x6 ≥ 0 then (if 0 ≤ x6 then (if x6 < (x5.length : Int) then (arcaderef12_digits.l0 k (wrap64 (Int.tdiv x0 256)) (x5.set (x6 : Int).toNat ((Int.tmod x0 256) % 256)) (wrap64 (x6 - 1))) else (none)) else (none)) else (some x5)
def arcaderef12_digits.f (k : Nat) (a0 : Int) (a1 : Int) : Option (List Int) := if 0 ≤ a1 then (if (a1 : Int).toNat ≤ 281474976710656 then (arcaderef12_digits.l0 k a0 (List.replicate (a1 : Int).toNat 0) (wrap64 (a1 - 1))) else (none)) else (none)
set_option maxHeartbeats 8000000 in
set_option maxRecDepth 100000 in
theorem arcaderef12_digits.calls (k : Nat) (a0 : Int) (a1 : Int) (r : List Int) (w : World) (h : arcaderef12_digits.f k a0 a1 = some r) :
  Calls Try.prog 83 #[.int .i64 a0, .int .i64 a1] w fun e w' => ∃ v0_ : Value, e = .returned (v0_) ∧ Kd.R (Kd.int .u8) 5 w' w.heap.size (fun _ => True) v0_ r ∧ Below w.heap.size w w' := by
 have HB := Aside0.mk (Below.refl w.heap.size w)
 have H : (if 0 ≤ a1 then (if (a1 : Int).toNat ≤ 281474976710656 then (arcaderef12_digits.l0 k a0 (List.replicate (a1 : Int).toNat 0) (wrap64 (a1 - 1))) else (none)) else (none)) = some r := h
 clear h
 by_cases c3 : 0 ≤ a1
 ·
  rw [if_pos c3] at H
  have c3b0 := eq_true c3
  have c3b1 : decide (0 ≤ a1) = true := decide_eq_true c3
  clear c3
  by_cases c4 : (a1 : Int).toNat ≤ 281474976710656
  ·
   rw [if_pos c4] at H
   have c4b0 := eq_true c4
   have c4b1 : decide ((a1 : Int).toNat ≤ 281474976710656) = true := decide_eq_true c4
   clear c4
   obtain ⟨y137, hy137⟩ : ∃ y_ : List Int, y_ = (List.replicate (a1 : Int).toNat 0) := ⟨_, rfl⟩
   replace H : (arcaderef12_digits.l0 k a0 y137 (wrap64 (a1 - 1))) = some r := by first | (rw [hy137]; with_reducible exact H) | (have H2_ := (Option.bind_some _ _).symm.trans H; rw [hy137]; with_reducible exact H2_) | (have H2_ := (Option.bind_some _ _).symm.trans H; with_reducible exact H2_) | with_reducible exact H | (rw [hy137]; exact H) | exact H
   have Ny137 := Aside0.mk hy137
   clear hy137
   have H' := Aside0.mk H
   clear H
   go_enter Try.func83, Try.ntmps83
   go_wp2_with (first | ((with_reducible refine gate_dst (N := 8) rfl ?_); refine Kd.R_make (Kd.int .u8) _ 5 rfl (N := 8) rfl 22 _ _ rfl a1 rfl rfl Try.underlying22 (.int .u8 0) 1 info5 rfl (by decide) (by omega) 0 (ok := fun _ => True) (okp := fun _ => True) rfl (fun _ hk => hk) trivial (of_decide_eq_true (by first | (with_reducible assumption) | assumption)) (Nat.le_trans (Nat.mul_le_mul_right _ (of_decide_eq_true (by first | (with_reducible assumption) | assumption) : a1.toNat ≤ 281474976710656)) (by omega)) (Below.refl _ _) (Nat.le_refl _) ?_; intro v138 w5 ho6 hb hg_ hnew_; clear hg_ hnew_; (first | rw [← Ny137.out] at ho6 | (simp only [Int.reduceToNat] at ho6; rw [← Ny137.out] at ho6)); have n0_ := Aside0.mk (Kd.R_lower ho6 (below_size (by repeat (first | (with_reducible first | exact HB.out | apply below_alloc | apply pw_below_drewN | apply below_drew1) | exact HB.out)))); have n1_ := Aside0.mk (below_step (by repeat (first | (with_reducible first | exact HB.out | apply below_alloc | apply pw_below_drewN | apply below_drew1) | exact HB.out)) hb); clear HB; have HO139 := n0_; have HB := n1_; clear n0_ n1_; clear hb ho6))
   go_loopg [0, 6] k (fun kq v0 v6 w' => ∃ (x0_1 : Int) (x5_1 : List Int) (x6_1 : Int), v0 = .int .i64 x0_1 ∧ v6 = .int .i64 x6_1 ∧ Aside0 (arcaderef12_digits.l0 kq x0_1 x5_1 x6_1 = some r) ∧ Aside0 (kq ≤ k) ∧ Aside0 (Kd.R (Kd.int .u8) 5 w' w.heap.size (fun _ => True) v138 x5_1) ∧ Aside0 (Below w.heap.size w w'))
   case atStart => exact ⟨(a0), (y137), (wrap64 (a1 - 1)), (by first | rfl | (simp; done) | (simp [*]; done)), (by first | rfl | (simp; done) | (simp [*]; done)), H', ⟨Nat.le_refl _⟩, ⟨by (with_reducible repeat (first | apply Kd.R_alloc | apply Kd.R_drewN | apply Kd.R_drew)); exact HO139.out⟩, ⟨by repeat (first | (with_reducible first | exact HB.out | apply below_alloc | apply pw_below_drewN | apply below_drew1) | exact HB.out)⟩⟩
   case round =>
    clear H'
    try clear p2
    try clear c3
    try clear c3b0
    try clear c3b1
    try clear c4
    try clear c4b0
    try clear c4b1
    try clear p6
    obtain ⟨x0_1, x5_1, x6_1, rfl, rfl, HA, HK1, HO_5, HB⟩ := hrel
    cases gk with
    | zero => exact absurd HA.out (by simp [arcaderef12_digits.l0])
    | succ k1 =>
     have H := HA.out
     clear HA
     simp only [arcaderef12_digits.l0] at H
     by_cases c7 : x6_1 ≥ 0
     ·
      rw [if_pos c7] at H
      have c7b0 : decide (0 ≤ x6_1) = true := decide_eq_true c7
      clear c7
      by_cases c8 : 0 ≤ x6_1
      ·
       rw [if_pos c8] at H
       have c8b0 : decide (0 ≤ x6_1) = true := decide_eq_true c8
       clear c8
       by_cases c9 : x6_1 < (x5_1.length : Int)
       ·
        rw [if_pos c9] at H
        have c9b0 : decide (x6_1 < (x5_1.length : Int)) = true := decide_eq_true c9
        clear c9
        obtain ⟨y140, hy140⟩ : ∃ y_ : List Int, y_ = (x5_1.set (x6_1 : Int).toNat ((Int.tmod x0_1 256) % 256)) := ⟨_, rfl⟩
        replace H : (arcaderef12_digits.l0 k1 (wrap64 (Int.tdiv x0_1 256)) y140 (wrap64 (x6_1 - 1))) = some r := by first | (rw [hy140]; with_reducible exact H) | (have H2_ := (Option.bind_some _ _).symm.trans H; rw [hy140]; with_reducible exact H2_) | (have H2_ := (Option.bind_some _ _).symm.trans H; with_reducible exact H2_) | with_reducible exact H | (rw [hy140]; exact H) | exact H
        have Ny140 := Aside0.mk hy140
        clear hy140
        have H' := Aside0.mk H
        clear H
        have p10 : 0 ≤ (x6_1 : Int) := of_decide_eq_true (by first | (with_reducible assumption) | assumption)
        have q10 : (x6_1 : Int) < ((x5_1.length : Int) : Int) := of_decide_eq_true (by first | (with_reducible assumption) | assumption)
        obtain ⟨go10, co10, eo10, gb10, gl10, cl10, HG10⟩ := Kd.R_form HO_5.out (by omega)
        (first | cases eo10 | (injection eo10 with ea_ en_ ec_; (first | subst ea_ | (injection ea_ with ea_; subst ea_)); subst ec_; clear en_))
        have GB10 := Aside0.mk gb10
        have GG10 := Aside0.mk HG10
        clear gb10 gl10 HG10
        obtain ⟨hx10_0, hf10_0⟩ := Kd.R_celln 0 HO_5.out (x6_1 : Int) p10 q10
        replace p10 := eq_true p10
        replace q10 := eq_true q10
        have HP11 := Kd.R_putg HO_5.out (x6_1 : Int) ((Int.tmod x0_1 256) % 256)
        go_wp2_with (first | ((with_reducible refine gate_store (t := 5) (p := 20) rfl ?_); refine store_event (t := 5) (p := 20) (v := ?vo_w12) (w1 := (wr.setCell ⟨go10, (x6_1 : Int).toNat, none⟩ (.int .u8 ((Int.tmod x0_1 256) % 256)))) ?hg ?ho ?hn ?hr ?_; (case ho => rfl); (case hg => rfl); (case hn => rfl); (case hr => first | (go_simp; done) | (go_simp; rfl)); intro w12 hw; have hg : wr.grownBy w12 (some go10) := (by rw [hw]; exact HP11.2); have hp_ : Kd.R (Kd.int .u8) 5 w12 w.heap.size (fun _ => True) (.slice (some ⟨go10, 0, none⟩) x5_1.length co10) y140 := (by rw [hw, Ny140.out]; exact HP11.1); clear HP11; have n0_ := Aside0.mk (hp_); have n1_ := Aside0.mk ((by rw [hw]; exact below_set (HB.out) GB10.out : Below w.heap.size w w12)); clear HO_5; clear HB; have HO_5 := n0_; have HB := n1_; clear n0_ n1_; clear hg hw hp_))
        go_roundg k1
        case measure => have := HK1.out; omega
        case rel => exact ⟨(wrap64 (Int.tdiv x0_1 256)), (y140), (wrap64 (x6_1 - 1)), (by first | rfl | (simp; done) | (simp [*]; done)), (by first | rfl | (simp; done) | (simp [*]; done)), H', ⟨by have := HK1.out; omega⟩, ⟨by (with_reducible repeat (first | apply Kd.R_alloc | apply Kd.R_drewN | apply Kd.R_drew)); exact HO_5.out⟩, ⟨by repeat (first | (with_reducible first | exact HB.out | apply below_alloc | apply pw_below_drewN | apply below_drew1) | exact HB.out)⟩⟩
       ·
        rw [if_neg c9] at H
        exact absurd H (by simp)
      ·
       rw [if_neg c8] at H
       exact absurd H (by simp)
     ·
      rw [if_neg c7] at H
      have c7b0 : decide (0 ≤ x6_1) = false := decide_eq_false c7
      clear c7
      obtain rfl := Option.some.inj H
      go_wp2
      go_ret
      exact ⟨_, by first | rfl | (simp [errW_none, errW_some] <;> rfl) | (simp [*, errW_none, errW_some] <;> rfl), by (with_reducible repeat (first | apply Kd.R_alloc | apply Kd.R_drewN | apply Kd.R_drew)); exact HO_5.out, by repeat (first | (with_reducible first | exact HB.out | apply below_alloc | apply pw_below_drewN | apply below_drew1) | exact HB.out)⟩
  ·
   rw [if_neg c4] at H
   exact absurd H (by simp)
 ·
  rw [if_neg c3] at H
  exact absurd H (by simp)
end Go.Proofs.Ytpflenaoplblkaa.PProtoAll
end
section
namespace Go.Proofs.Ytpflenaoplblkaa.PProtoAll
open Go.RowKit YtpflenaoplblkaaW.PrintWords YtpflenaoplblkaaW.PrintLast YtpflenaoplblkaaW.PrintMore
attribute [local go_sem] max2_int min2_int max_two min_two max_three min_three max_four min_four   -- for this text's walks alone
set_option linter.unusedVariables false
set_option linter.unusedSimpArgs false
def arcaderef12_number.l0 : Nat → List Int → Int → Int → Option (Int)
 | 0, _, _, _ => none
 | k + 1, x0, x3, x4 => if x4 < (x0.length : Int) then (if 0 ≤ x4 then (arcaderef12_number.l0 k x0 (wrap64 ((wrap64 (256 * x3)) + (wrap64 (rd x0 x4)))) (wrap64 (x4 + 1))) else (none)) else (some x3)
def arcaderef12_number.f (k : Nat) (l0 : List Int) : Option (Int) := arcaderef12_number.l0 k l0 0 0
set_option maxHeartbeats 8000000 in
set_option maxRecDepth 100000 in
theorem arcaderef12_number.calls (k : Nat) (A0 : Option Addr) (c0 : Nat) (l0 : List Int) (r : Int) (w : World) (hr0 : Kd.C (Kd.int .u8) w A0 l0.length l0) (hc0 : l0.length ≤ c0) (h : arcaderef12_number.f k l0 = some r) :
  Calls Try.prog 86 #[.slice A0 l0.length c0] w fun e w' => e = .returned (.int .i64 r) ∧ Drawn0 w w' := by
 have HR0 := Aside0.mk hr0
 have HC0 := Aside0.mk hc0
 clear hr0 hc0
 have H : (arcaderef12_number.l0 k l0 0 0) = some r := h
 clear h
 have H' := Aside0.mk H
 clear H
 go_enter Try.func86, Try.ntmps86
 go_wp2
 go_loopg [3, 4] k (fun kq v3 v4 w' => ∃ (x3_1 : Int) (x4_1 : Int), v3 = .int .i64 x3_1 ∧ v4 = .int .i64 x4_1 ∧ Aside0 (arcaderef12_number.l0 kq l0 x3_1 x4_1 = some r) ∧ Aside0 (kq ≤ k) ∧ Drawn0 w w')
 case atStart => exact ⟨(0), (0), (by first | rfl | (simp; done) | (simp [*]; done)), (by first | rfl | (simp; done) | (simp [*]; done)), H', ⟨Nat.le_refl _⟩, by repeat (first | exact Drawn0.refl _ | apply Drawn0.step)⟩
 case round =>
  clear H'
  obtain ⟨x3_1, x4_1, rfl, rfl, HA, HK1, ⟨m1, rfl⟩⟩ := hrel
  cases gk with
  | zero => exact absurd HA.out (by simp [arcaderef12_number.l0])
  | succ k1 =>
   have H := HA.out
   clear HA
   simp only [arcaderef12_number.l0] at H
   by_cases c2 : x4_1 < (l0.length : Int)
   ·
    rw [if_pos c2] at H
    have c2b0 : decide (x4_1 < (l0.length : Int)) = true := decide_eq_true c2
    clear c2
    by_cases c3 : 0 ≤ x4_1
    ·
     rw [if_pos c3] at H
     have c3b0 : decide (0 ≤ x4_1) = true := decide_eq_true c3
     clear c3
     have H' := Aside0.mk H
     clear H
     have p191 : 0 ≤ (x4_1 : Int) := of_decide_eq_true (by first | (with_reducible assumption) | assumption)
     have q191 : x4_1 < (l0.length : Int) := of_decide_eq_true (by first | (with_reducible assumption) | assumption)
     obtain ⟨ad191, e191, hx191_0⟩ := Kd.at_int HR0.out x4_1 p191 q191
     cases e191
     replace p191 := eq_true p191
     replace q191 := eq_true q191
     go_wp2
     go_roundg k1
     case measure => have := HK1.out; omega
     case rel => exact ⟨(wrap64 ((wrap64 (256 * x3_1)) + (wrap64 (rd l0 x4_1)))), (wrap64 (x4_1 + 1)), (by first | rfl | (simp; done) | (simp [*]; done)), (by first | rfl | (simp; done) | (simp [*]; done)), H', ⟨by have := HK1.out; omega⟩, by repeat (first | exact Drawn0.refl _ | apply Drawn0.step)⟩
    ·
     rw [if_neg c3] at H
     exact absurd H (by simp)
   ·
    rw [if_neg c2] at H
    have c2b0 : decide (x4_1 < (l0.length : Int)) = false := decide_eq_false c2
    clear c2
    obtain rfl := Option.some.inj H
    go_wp2
    go_ret
    exact ⟨by first | rfl | (simp; done) | (simp [*]; done), by repeat (first | exact Drawn0.refl _ | apply Drawn0.step)⟩
def arcadelaw12_digit.l0 : Nat → Int → Int → Option (Int)
 | 0, _, _ => none
 | k + 1, x0, x5 => if x5 > 0 then (arcadelaw12_digit.l0 k (wrap64 (Int.tdiv x0 250)) (wrap64 (x5 - 1))) else (some ((wrap64 (1 + (Int.tmod x0 250))) % 256))
def arcadelaw12_digit.f (k : Nat) (a0 : Int) (a1 : Int) : Option (Int) := arcadelaw12_digit.l0 k a0 (Int.tmod a1 3)
set_option maxHeartbeats 8000000 in
set_option maxRecDepth 100000 in
theorem arcadelaw12_digit.calls (k : Nat) (a0 : Int) (a1 : Int) (r : Int) (w : World) (h : arcadelaw12_digit.f k a0 a1 = some r) :
  Calls Try.prog 38 #[.int .i64 a0, .int .i64 a1] w fun e w' => e = .returned (.int .u8 r) ∧ Drawn0 w w' := by
 have H : (arcadelaw12_digit.l0 k a0 (Int.tmod a1 3)) = some r := h
 clear h
 have H' := Aside0.mk H
 clear H
 go_enter Try.func38, Try.ntmps38
 go_wp2
 go_loopg [0, 5] k (fun kq v0 v5 w' => ∃ (x0_1 : Int) (x5_1 : Int), v0 = .int .i64 x0_1 ∧ v5 = .int .i64 x5_1 ∧ Aside0 (arcadelaw12_digit.l0 kq x0_1 x5_1 = some r) ∧ Aside0 (kq ≤ k) ∧ Drawn0 w w')
 case atStart => exact ⟨(a0), (Int.tmod a1 3), (by first | rfl | (simp; done) | (simp [*]; done)), (by first | rfl | (simp; done) | (simp [*]; done)), H', ⟨Nat.le_refl _⟩, by repeat (first | exact Drawn0.refl _ | apply Drawn0.step)⟩
 case round =>
  clear H'
  try clear p2
  obtain ⟨x0_1, x5_1, rfl, rfl, HA, HK1, ⟨m1, rfl⟩⟩ := hrel
  cases gk with
  | zero => exact absurd HA.out (by simp [arcadelaw12_digit.l0])
  | succ k1 =>
   have H := HA.out
   clear HA
   simp only [arcadelaw12_digit.l0] at H
   by_cases c3 : x5_1 > 0
   ·
    rw [if_pos c3] at H
    have c3b0 : decide (0 < x5_1) = true := decide_eq_true c3
    clear c3
    have H' := Aside0.mk H
    clear H
    go_wp2
    go_roundg k1
    case measure => have := HK1.out; omega
    case rel => exact ⟨(wrap64 (Int.tdiv x0_1 250)), (wrap64 (x5_1 - 1)), (by first | rfl | (simp; done) | (simp [*]; done)), (by first | rfl | (simp; done) | (simp [*]; done)), H', ⟨by have := HK1.out; omega⟩, by repeat (first | exact Drawn0.refl _ | apply Drawn0.step)⟩
   ·
    rw [if_neg c3] at H
    have c3b0 : decide (0 < x5_1) = false := decide_eq_false c3
    clear c3
    obtain rfl := Option.some.inj H
    go_wp2
    go_ret
    exact ⟨by first | rfl | (simp; done) | (simp [*]; done), by repeat (first | exact Drawn0.refl _ | apply Drawn0.step)⟩
end Go.Proofs.Ytpflenaoplblkaa.PProtoAll
end
