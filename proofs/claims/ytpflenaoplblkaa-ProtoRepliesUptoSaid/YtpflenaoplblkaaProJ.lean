import Derived.Test.YtpflenaoplblkaaProH
namespace Go.Proofs.Ytpflenaoplblkaa.ProJ
open Go.RowKit Go.Proofs.YtpflenaoplblkaaW.PrintWords Go.Proofs.YtpflenaoplblkaaW.PrintLast Go.Proofs.Ytpflenaoplblkaa.ProA Go.Proofs.Ytpflenaoplblkaa.ProB Go.Proofs.Ytpflenaoplblkaa.ProC Go.Proofs.Ytpflenaoplblkaa.ProI Go.Proofs.Ytpflenaoplblkaa.ProD Go.Proofs.Ytpflenaoplblkaa.ProE Go.Proofs.Ytpflenaoplblkaa.ProF Go.Proofs.Ytpflenaoplblkaa.ProG Go.Proofs.Ytpflenaoplblkaa.ProH
set_option linter.unusedVariables false
set_option linter.unusedSimpArgs false
/-! what a part does, in plain Lean -/
def Fget (F : Flds) : Wh → Int | .tn => F.tn | .n => F.n | .m => F.m
def Fput (F : Flds) (o : Wh) (x : Int) : Flds := match o with | .tn => { F with tn := x } | .n => { F with n := x } | .m => { F with m := x }
def len1 (xs : List Int) (k : Nat) : Nat := (be (xs.take k)).toNat
def rdS : PS → List Int → Flds → Option (Flds × Nat)
  | .num o k _ _, xs, F => if k ≤ xs.length then some (Fput F o (be (xs.take k)), k) else none
  | .name, xs, F => if 1 ≤ xs.length ∧ 1 + len1 xs 1 ≤ xs.length then some ({ F with name := strOfNums ((xs.drop 1).take (len1 xs 1)) }, 1 + len1 xs 1) else none
  | .blob _, xs, F => if 4 ≤ xs.length ∧ 4 + len1 xs 4 ≤ xs.length then some ({ F with data := (xs.drop 4).take (len1 xs 4) }, 4 + len1 xs 4) else none
def fitsS : PS → Flds → Bool
  | .num o _ lo hi, F => decide (lo ≤ Fget F o) && decide (Fget F o ≤ hi)
  | .name, F => nameOk F.name
  | .blob hi, F => decide ((F.data.length : Int) ≤ hi)
def wrS : PS → Flds → List Int
  | .num o k _ _, F => beB (Fget F o) k
  | .name, F => beB F.name.size 1 ++ bytesOf F.name
  | .blob _, F => beB F.data.length 4 ++ F.data
def clS : PS → Flds → Flds
  | .num o _ _ _, F => Fput F o 0
  | .name, F => { F with name := ByteArray.empty }
  | .blob _, F => { F with data := [] }
/-- a part as the tables have them -/
def psmall : PS → Prop
  | .num _ k lo _ => 1 ≤ k ∧ k ≤ 4 ∧ 0 ≤ lo
  | _ => True
/-- a call of a function's value -/
def FCalls (P : Program) (v : Value) (args : Array Value) (w : World) (R : Ending → World → Prop) : Prop :=
  ∃ N fn cap, v = fnv N cap ∧ P.funcs[N]? = some fn ∧ (fn.name == "runtime.NumGoroutine") = false ∧ fn.body.isSome = true ∧ Calls P N (args ++ cap) w R
theorem FCalls.mono {P : Program} {v : Value} {args : Array Value} {w : World} {R R' : Ending → World → Prop} (h : FCalls P v args w R) (hr : ∀ e w', R e w' → R' e w') : FCalls P v args w R' := by
  obtain ⟨N, fn, cap, h1, h2, h3, h4, h5⟩ := h
  exact ⟨N, fn, cap, h1, h2, h3, h4, h5.mono hr⟩
theorem goesF {P : Program} {ops : Array Oper} {Q : Exit → Act → World → Prop} {rest : List Oper} {oi : Oper} {a : Act} {w : World} (N : Option Tmp) (hd : oi.dst = N) (hg : oi.guard = none) {aas : Array Operand} {ts : Array TypeId} {c : Operand} (v : Value) (args : Array Value)
    (hop : oi.op = .call { callee := .value c, args := aas, argTypes := ts }) (hc : a.eval c = v) (hargs : aas.map a.eval = args)
    (h : FCalls P v args w fun e w' => (∃ u, e = .returned u ∧ wpList P ops Q rest (a.put N u) w') ∨ ∃ ch, e = .panicked ch ∧ Q (.panic ch) a w') : wpList P ops Q (oi :: rest) a w := by
  obtain ⟨f, fn, cap, rfl, hf, hname, hb, hcall⟩ := h
  refine wpList_plain hg fun K hK => ?_
  have he := enters_ hf hname hb (args ++ cap) w
  have hrun : (execOp a.eval oi).run P w = .ok (.enter f (args ++ cap)) w := by
    unfold execOp
    subst hargs
    simp [hop, resolve, Deferred.ofValue, invoke, hc, fnv, he]
  unfold Oper.wp
  rw [hrun, Oper.upon_enter]
  refine hcall.mono fun e w'' hh => ?_
  subst hd
  rcases hh with ⟨u, rfl, hk⟩ | ⟨ch, rfl, hk⟩
  · exact hK _ _ hk
  · exact hk
theorem u8_drop {xs : List Int} (h : u8s xs) (k : Nat) : u8s (xs.drop k) := fun x hx => h x (List.mem_of_mem_drop hx)
theorem len1_eq {xs : List Int} (h : u8s xs) (k : Nat) : be (xs.take k) = (len1 xs k : Int) := by
  have := be_lt h k
  unfold len1
  omega
/-- what a reader's slice leads to: bytes that lie neither in the reader's block nor in the fields' -/
structure Rest (w : World) (g f : Nat) (A : Option Addr) (n c : Nat) (xs : List Int) : Prop where
  at_ : RdAt w g A n c
  bytes : BytesAt w A n xs
  u8 : u8s xs
  ng : ∀ a, A = some a → a.block ≠ g
  nf : ∀ a, A = some a → a.block ≠ f
  le : n ≤ c
theorem Rest.step {w w' : World} {g f : Nat} {A : Option Addr} {n c k : Nat} {xs : List Int} (h : Rest w g f A n c xs) (ht : Tu [g, f] w w') (hk : k ≤ n) (hr : RdAt w' g (adv A c k) (n - k) (c - k)) : Rest w' g f (adv A c k) (n - k) (c - k) (xs.drop k) :=
  ⟨hr, BytesAt.tu (BytesAt.drop h.bytes k hk h.le) ht (fun a ha _ hm => by
      have h1 := adv_ne h.ng a ha
      have h2 := adv_ne h.nf a ha
      simp at hm
      rcases hm with hm | hm
      · exact h1 hm
      · exact h2 hm), u8_drop h.u8 k, adv_ne h.ng, adv_ne h.nf, by have := h.le; omega⟩
/-- the data of fields: the call's own bytes, in none of the two blocks -/
abbrev DataAt (w : World) (base g f : Nat) (dv : Value) (xs : List Int) : Prop := Own w base (fun k => k ≠ g ∧ k ≠ f) dv xs
theorem DataAt.tu {w w' : World} {base g f : Nat} {dv : Value} {xs : List Int} (h : DataAt w base g f dv xs) (ht : Tu [g, f] w w') : DataAt w' base g f dv xs :=
  Kd.R_step h (fun k hk hlt => ht.block k hlt (by simp; exact hk))
theorem Rest.step2 {w w' : World} {g f : Nat} {A : Option Addr} {n c k l : Nat} {xs : List Int} (h : Rest w g f A n c xs) (ht : Tu [g, f] w w') (hk : k + l ≤ n) (hr : RdAt w' g (adv (adv A c k) (c - k) l) (n - k - l) (c - k - l)) : Rest w' g f (adv (adv A c k) (c - k) l) (n - (k + l)) (c - k - l) (xs.drop (k + l)) := by
  have hle := h.le
  have e : n - (k + l) = n - k - l := by omega
  rw [e, ← List.drop_drop]
  exact ⟨hr, BytesAt.tu (BytesAt.drop (BytesAt.drop h.bytes k (by omega) h.le) l (by omega) (by omega)) ht (fun a ha _ hm => by
      have h1 := adv_ne (adv_ne h.ng) a ha
      have h2 := adv_ne (adv_ne h.nf) a ha
      simp at hm
      rcases hm with hm | hm
      · exact h1 hm
      · exact h2 hm), u8_drop (u8_drop h.u8 k) l, adv_ne (adv_ne h.ng), adv_ne (adv_ne h.nf), by omega⟩
theorem FCalls.of {P : Program} {N : FuncId} {fn : Func} {cap args args' : Array Value} {w : World} {R : Ending → World → Prop} (hf : P.funcs[N]? = some fn) (hn : (fn.name == "runtime.NumGoroutine") = false) (hb : fn.body.isSome = true) (h : Calls P N args' w R) (ha : args ++ cap = args') : FCalls P (fnv N cap) args w R :=
  ⟨N, fn, cap, rfl, hf, hn, hb, ha ▸ h⟩
/-- how a part's read ends -/
def ReadPost (w : World) (base g f n : Nat) (xs : List Int) (r : Option (Flds × Nat)) (e : Ending) (w' : World) : Prop :=
  match r with
  | none => e = wrong 121 ∧ Tu [g] w w'
  | some (F', k) => ∃ A' c' dv', e = .returned (.tuple #[]) ∧ Rest w' g f A' (n - k) c' (xs.drop k) ∧ FdAt w' f F' dv' ∧ DataAt w' base g f dv' F'.data ∧ Tu [g, f] w w'
set_option maxHeartbeats 1000000 in
theorem part_read (p : PS) (w : World) (lo hi base g f n c : Nat) (f0 f1 f2 f3 dv : Value) (A : Option Addr) (xs : List Int) (F : Flds)
    (hp : PartAt w lo hi (.agg #[f0, f1, f2, f3]) p) (hs : psmall p) (hr : Rest w g f A n c xs) (hf : FdAt w f F dv) (hd : DataAt w base g f dv F.data) (hgf : f ≠ g) (hb : base ≤ w.heap.size) (hbig : n ≤ 140737488350000) :
    FCalls Try.prog f0 #[pt g, pt f] w (ReadPost w base g f n xs (rdS p xs F)) := by
  have hlen := BytesAt.len hr.bytes
  have hle := hr.le
  have hgl : g < w.heap.size := hr.at_.lt
  have hfl : f < w.heap.size := hf.lt
  cases p with
  | num o k l h =>
    obtain ⟨a4, a5, a6, a7, hv, _, b1, b2, b3, b4⟩ := hp
    simp only [Value.agg.injEq, Array.mk.injEq, List.cons.injEq, and_true] at hv
    obtain ⟨rfl, rfl, rfl, rfl⟩ := hv
    obtain ⟨hk1, hk4, _⟩ := hs
    simp only [rdS]
    by_cases hk : k ≤ xs.length
    · rw [if_pos hk]
      have hk' : k ≤ n := by omega
      cases o
      · exact FCalls.of Try.func63 (by kernel_rfl) rfl (Calls.mono (read_ok_tenant g f a4 a7 A n c k w xs F dv hr.at_ hf b1 b4 hr.bytes hr.u8 (fun a ha _ => hr.ng a ha) hk' hk4 hr.le hgf) (fun e w' ⟨h1, h2, h3, h4⟩ => ⟨_, _, dv, h1, hr.step h4 hk' h2, h3, hd.tu h4, h4⟩)) rfl
      · exact FCalls.of Try.func63 (by kernel_rfl) rfl (Calls.mono (read_ok_n g f a4 a7 A n c k w xs F dv hr.at_ hf b1 b4 hr.bytes hr.u8 (fun a ha _ => hr.ng a ha) hk' hk4 hr.le hgf) (fun e w' ⟨h1, h2, h3, h4⟩ => ⟨_, _, dv, h1, hr.step h4 hk' h2, h3, hd.tu h4, h4⟩)) rfl
      · exact FCalls.of Try.func63 (by kernel_rfl) rfl (Calls.mono (read_ok_m g f a4 a7 A n c k w xs F dv hr.at_ hf b1 b4 hr.bytes hr.u8 (fun a ha _ => hr.ng a ha) hk' hk4 hr.le hgf) (fun e w' ⟨h1, h2, h3, h4⟩ => ⟨_, _, dv, h1, hr.step h4 hk' h2, h3, hd.tu h4, h4⟩)) rfl
    · rw [if_neg hk]
      have hk' : n < k := by omega
      cases o
      · exact FCalls.of Try.func63 (by kernel_rfl) rfl (read_no_tenant g f a4 a7 A n c k w hr.at_ b1 b4 hk') rfl
      · exact FCalls.of Try.func63 (by kernel_rfl) rfl (read_no_n g f a4 a7 A n c k w hr.at_ b1 b4 hk') rfl
      · exact FCalls.of Try.func63 (by kernel_rfl) rfl (read_no_m g f a4 a7 A n c k w hr.at_ b1 b4 hk') rfl
  | name =>
    have hv : Value.agg #[f0, f1, f2, f3] = _ := hp
    simp only [Value.agg.injEq, Array.mk.injEq, List.cons.injEq, and_true] at hv
    obtain ⟨rfl, rfl, rfl, rfl⟩ := hv
    simp only [rdS]
    by_cases h1 : 1 ≤ n
    · by_cases h2 : 1 + len1 xs 1 ≤ n
      · rw [if_pos ⟨by omega, by omega⟩]
        exact FCalls.of Try.func67 (by kernel_rfl) rfl (Calls.mono (nread_ok g f A n c (len1 xs 1) w xs F dv hr.at_ hf hr.bytes hr.u8 hr.ng hr.le hgf h1 (len1_eq hr.u8 1) h2) (fun e w' ⟨h1, h3, h4, h5⟩ => ⟨_, _, dv, h1, hr.step2 h5 h2 h3, h4, hd.tu h5, h5⟩)) rfl
      · rw [if_neg (by omega)]
        exact FCalls.of Try.func67 (by kernel_rfl) rfl (nread_no2 g f A n c (len1 xs 1) w xs hr.at_ hr.bytes hr.u8 hr.ng hr.le h1 (len1_eq hr.u8 1) (by omega)) rfl
    · rw [if_neg (by omega)]
      exact FCalls.of Try.func67 (by kernel_rfl) rfl (nread_no1 g f A n c w hr.at_ (by omega)) rfl
  | blob h =>
    obtain ⟨a, hv, _, b1⟩ := hp
    simp only [Value.agg.injEq, Array.mk.injEq, List.cons.injEq, and_true] at hv
    obtain ⟨rfl, rfl, rfl, rfl⟩ := hv
    simp only [rdS]
    by_cases h1 : 4 ≤ n
    · by_cases h2 : 4 + len1 xs 4 ≤ n
      · rw [if_pos ⟨by omega, by omega⟩]
        refine FCalls.of Try.func73 (by kernel_rfl) rfl (Calls.mono (bread_ok g f A n c (len1 xs 4) w xs F dv hr.at_ hf hr.bytes hr.u8 hr.ng hr.le hgf h1 (len1_eq hr.u8 4) h2 (by omega)) ?_) rfl
        rintro e w' ⟨dv', h1, h3, h4, h5, h6⟩
        exact ⟨_, _, dv', h1, hr.step2 h6 h2 h3, h4, Kd.R_lower (Kd.R_mono h5 (fun k hk => by rcases hk with hk | hk; simp at hk; omega)) hb, h6⟩
      · rw [if_neg (by omega)]
        exact FCalls.of Try.func73 (by kernel_rfl) rfl (bread_no2 g f A n c (len1 xs 4) w xs hr.at_ hr.bytes hr.u8 hr.ng hr.le h1 (len1_eq hr.u8 4) (by omega)) rfl
    · rw [if_neg (by omega)]
      exact FCalls.of Try.func73 (by kernel_rfl) rfl (bread_no1 g f A n c w hr.at_ (by omega)) rfl
end Go.Proofs.Ytpflenaoplblkaa.ProJ
