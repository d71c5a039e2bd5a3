/-
  The abstract machine, run: what is left to do is a list of items; rules by which a run is walked.
-/
import Derived.Test.YtidicfdcjoggpaaMJ
namespace Go.Proofs.Ytidicfdcjoggpaa.M
open Go.RowKit
set_option linter.unusedVariables false
set_option linter.unusedSimpArgs false
variable {P : Program} {W : World}

theorem ast_mono {H : AHeap} {n : Nat} {x : AVal} {p : List AVal} {K K' : AHeap → Prop} (hk : ∀ H, K H → K' H) (h : ast H n x p K) : ast H n x p K' := by
  obtain ⟨h0, h⟩ := h
  refine ⟨h0, ?_⟩
  split at h
  · split at h
    · exact ⟨h.1, hk _ h.2⟩
    · exact h.elim
  · split at h
    · obtain ⟨h1, r, h2, h3, h4⟩ := h; exact ⟨h1, r, h2, h3, hk _ h4⟩
    · exact h.elim
  · exact h.elim
theorem aapp_mono {H : AHeap} {E sz b : Nat} {x : AVal} {new : List (List AVal)} {K K' : AVal → AHeap → Prop} (hk : ∀ r H, K r H → K' r H) (h : aapp H E sz b x new K) : aapp H E sz b x new K' := by
  obtain ⟨h0, h⟩ := h
  refine ⟨fun e => ⟨(h0 e).1, hk _ _ (h0 e).2⟩, fun e => ?_⟩
  have h := h e
  split at h
  · exact ⟨h.1, fun g hg => hk _ _ (h.2 g hg)⟩
  · exact ⟨h.1, fun g hg => hk _ _ (h.2 g hg)⟩
  · split at h
    · exact ⟨h.1, fun g hg => hk _ _ (h.2 g hg)⟩
    · exact h.elim
  · split at h
    · exact ⟨h.1, fun g hg => hk _ _ (h.2 g hg)⟩
    · exact h.elim
  · exact h.elim
theorem mapped_mono {H : AHeap} {x : AVal} {K K' : Nat → List (Value × Nat × AVal) → Nat → Prop} (hk : ∀ b l c, K b l c → K' b l c) (h : mapped H x K) : mapped H x K' := by
  unfold mapped at h ⊢
  split at h <;> try exact h.elim
  split at h <;> try exact h.elim
  exact hk _ _ _ h
theorem aeff_mono {m : AE} {d : Option Nat} {s : AState} {K K' : AState → Prop} (hk : ∀ s, K s → K' s) (h : aeff P W m d s K) : aeff P W m d s K' := by
  cases m with
  | alloc E z => exact fun b hb => hk _ (h b hb)
  | box E x => exact ⟨h.1, fun b hb => hk _ (h.2 b hb)⟩
  | bsl E sz xs => exact ⟨h.1, hk _ h.2⟩
  | st n x y => exact ast_mono (K := fun H' => K ((⟨s.tm, H'⟩ : AState).put d .any)) (fun _ h => hk _ h) h
  | app E sz b str x y => obtain ⟨new, h1, h2⟩ := h; exact ⟨new, h1, aapp_mono (fun _ _ h => hk _ h) h2⟩
  | appq E sz b str x y => obtain ⟨h0, new, h1, h2⟩ := h; exact ⟨h0, new, h1, aapp_mono (fun _ _ h => hk _ h) h2⟩
  | s2b E x =>
    simp only [aeff] at h ⊢
    split at h
    · exact ⟨h.1, fun b hb => hk _ (h.2 b hb)⟩
    · exact h.elim
  | b2s x => obtain ⟨h1, rows, bs, h2, h3, h4⟩ := h; exact ⟨h1, rows, bs, h2, h3, hk _ h4⟩
  | call f xs => obtain ⟨s1, hw, h⟩ := h; exact ⟨s1, hw, ACalls.mono h (fun _ _ h => hk _ h)⟩
  | callq f xs => exact ACalls.mono h (fun _ _ h => hk _ h)
  | callv x xs =>
    simp only [aeff] at h ⊢
    split at h
    · exact ⟨h.1, ACalls.mono h.2 (fun _ _ h => hk _ h)⟩
    · exact h.elim
  | mk => exact fun b hb => hk _ (h b hb)
  | up kc x i v => exact mapped_mono (fun b l c h => ⟨h.1, hk _ h.2⟩) h
  | del kc x i => exact mapped_mono (fun b l c h => ⟨h.1, hk _ h.2⟩) h
  | rg x => exact mapped_mono (fun b l c h r hr => hk _ (h r hr)) h
  | nx x =>
    simp only [aeff] at h ⊢
    split at h <;> try exact h.elim
    split at h <;> try exact h.elim
    split at h <;> try exact h.elim
    exact ⟨h.1, fun e => hk _ (h.2.1 e), fun e he hs => hk _ (h.2.2 e he hs)⟩
  | srg x =>
    simp only [aeff] at h ⊢
    split at h <;> try exact h.elim
    exact fun r hr => hk _ (h r hr)
  | snx x =>
    simp only [aeff] at h ⊢
    split at h <;> try exact h.elim
    split at h <;> try exact h.elim
    exact ⟨fun e => hk _ (h.1 e), fun e => hk _ (h.2 e)⟩
  | niq neg x =>
    simp only [aeff, niqA] at h ⊢
    split at h
    · exact fun t ht => hk _ (h t ht)
    · exact hk _ h
    · exact hk _ h
    · exact hk _ h
    · exact h.elim
  | me kc z x i => exact mapped_mono (fun b l c h => ⟨h.1, hk _ h.2⟩) h
  | es x n v => exact mapped_mono (fun b l c h => by
      split at h
      · exact ⟨h.1, hk _ h.2⟩
      · exact h.elim) h
/-- An operation, run. -/
def rac (P : Program) (W : World) (a : Act1) (d : Option Nat) (s : AState) (F : AState → Prop) : Prop :=
  match a with
  | .q m => side m s ∧ F (s.put d (val m s))
  | .e m => aeff P W m d s F
def rops (P : Program) (W : World) : List AOper → AState → (AState → Prop) → Prop
  | [], s, K => K s
  | o :: r, s, K => guarded o.guard s (rac P W o.act o.dst s fun s' => rops P W r s' K) (rops P W r (s.put o.dst (.v undef)) K)
theorem guarded_mono {g : Option (Nat × Bool)} {s : AState} {A B A' B' : Prop} (ha : A → A') (hb : B → B') (h : guarded g s A B) : guarded g s A' B' := by
  unfold guarded at h ⊢
  split at h
  · exact ha h
  · split at h
    · exact ⟨fun e => ha (h.1 e), fun e => hb (h.2 e)⟩
    · exact hb h
    · exact h.elim
theorem aops_of : ∀ (l : List AOper) (s : AState) (K K' : AState → Prop), (∀ s, K s → K' s) → rops P W l s K → aops P W l s K'
  | [], s, K, K', hk, h => hk _ h
  | o :: r, s, K, K', hk, h => by
    refine guarded_mono (fun h => ?_) (fun h => aops_of r _ K K' hk h) h
    unfold rac at h
    unfold astep
    cases ha : o.act with
    | q m => rw [ha] at h; exact aval_of h.1 (aops_of r _ K K' hk h.2)
    | e m => rw [ha] at h; exact aeff_mono (fun s h => aops_of r s K K' hk h) h
def rwp (P : Program) (W : World) : ACode → (Exit → AState → Prop) → AState → Prop
  | .skip, Q, s => Q .normal s
  | .ops l, Q, s => rops P W l s (Q .normal)
  | .seq x y, Q, s => rwp P W x (thenA (rwp P W y Q) Q) s
  | .both x y, Q, s => rwp P W x Q s ∧ rwp P W y Q s
  | .cond c x y, Q, s => match ev s.tm c with
    | .v (.bool t) => (t = true → rwp P W x Q s) ∧ (t = false → rwp P W y Q s)
    | _ => False
  | .block id x, Q, s => rwp P W x (blockA id Q) s
  | .loop x, Q, s => ∃ (I : Nat → AState → Prop), (∃ n s0, Weak s s0 ∧ I n s0) ∧ ∀ n s1, I n s1 → rwp P W x (thenA (fun s2 => ∃ k s3, k < n ∧ Weak s2 s3 ∧ I k s3) Q) s1
  | .exit id, Q, s => Q (.exit id) s
  | .ret, Q, s => Q .ret s
  | .scope x, Q, s => rwp P W x Q s
theorem rac_mono {a : Act1} {d : Option Nat} {s : AState} {K K' : AState → Prop} (hk : ∀ s, K s → K' s) (h : rac P W a d s K) : rac P W a d s K' := by
  unfold rac at h ⊢
  split at h
  · exact ⟨h.1, hk _ h.2⟩
  · exact aeff_mono hk h
theorem rops_mono : ∀ {l : List AOper} {s : AState} {K K' : AState → Prop}, (∀ s, K s → K' s) → rops P W l s K → rops P W l s K'
  | [], s, K, K', hk, h => hk _ h
  | o :: r, s, K, K', hk, h => guarded_mono (rac_mono fun s h => rops_mono hk h) (rops_mono hk) h
theorem rwp_mono : ∀ {c : ACode} {s : AState} {Q Q' : Exit → AState → Prop}, (∀ e s, Q e s → Q' e s) → rwp P W c Q s → rwp P W c Q' s := by
  intro c
  induction c with
  | skip => intro s Q Q' hq h; exact hq _ _ h
  | ops l => intro s Q Q' hq h; exact rops_mono (hq .normal) h
  | seq x y ihx ihy => intro s Q Q' hq h; exact ihx (fun e s h => by cases e <;> first | exact ihy hq h | exact hq _ _ h) h
  | both x y ihx ihy => intro s Q Q' hq h; exact ⟨ihx hq h.1, ihy hq h.2⟩
  | cond c x y ihx ihy =>
    intro s Q Q' hq h
    simp only [rwp] at h ⊢
    split at h
    · exact ⟨fun e => ihx hq (h.1 e), fun e => ihy hq (h.2 e)⟩
    · exact h.elim
  | block id x ih => intro s Q Q' hq h; exact ih (fun e s h => by
      cases e with
      | exit i => simp only [blockA] at h ⊢; split at h <;> rename_i e <;> simp only [e, if_true, if_false] <;> exact hq _ _ h
      | _ => exact hq _ _ h) h
  | loop x ih =>
    rintro s Q Q' hq ⟨I, h0, h⟩
    exact ⟨I, h0, fun n s1 hI => ih (fun e s h => by cases e <;> first | exact h | exact hq _ _ h) (h n s1 hI)⟩
  | exit id => intro s Q Q' hq h; exact hq _ _ h
  | ret => intro s Q Q' hq h; exact hq _ _ h
  | scope x ih => intro s Q Q' hq h; exact ih hq h
theorem awp_of : ∀ (c : ACode) (s : AState) (Q Q' : Exit → AState → Prop), (∀ e s, Q e s → Q' e s) → rwp P W c Q s → awp P W c Q' s := by
  intro c
  induction c with
  | skip => intro s Q Q' hq h; exact hq _ _ h
  | ops l => intro s Q Q' hq h; exact aops_of l s _ _ (hq .normal) h
  | seq x y ihx ihy => intro s Q Q' hq h; exact ihx s _ _ (fun e s h => by cases e <;> first | exact ihy _ _ _ hq h | exact hq _ _ h) h
  | both x y ihx ihy => intro s Q Q' hq h; exact ⟨ihx s _ _ hq h.1, ihy s _ _ hq h.2⟩
  | cond c x y ihx ihy =>
    intro s Q Q' hq h
    simp only [rwp] at h
    simp only [awp]
    split at h
    · rename_i t e
      rw [e]
      exact ⟨fun e => ihx s _ _ hq (h.1 e), fun e => ihy s _ _ hq (h.2 e)⟩
    · exact h.elim
  | block id x ih => intro s Q Q' hq h; exact ih s _ _ (fun e s h => by
      cases e with
      | exit i => simp only [blockA] at h ⊢; split at h <;> rename_i e <;> simp only [e, if_true, if_false] <;> exact hq _ _ h
      | _ => exact hq _ _ h) h
  | loop x ih =>
    rintro s Q Q' hq ⟨I, h0, h⟩
    exact ⟨I, h0, fun n s1 hI => ih s1 _ _ (fun e s h => by cases e <;> first | exact h | exact hq _ _ h) (h n s1 hI)⟩
  | exit id => intro s Q Q' hq h; exact hq _ _ h
  | ret => intro s Q Q' hq h; exact hq _ _ h
  | scope x ih => intro s Q Q' hq h; exact ih s _ _ hq h

inductive Item where
  | code (c : ACode)
  | ops (l : List AOper)
  | endb (id : Nat)
  | endl (K : AState → Prop)
def stk (P : Program) (W : World) : List Item → (Exit → AState → Prop) → Exit → AState → Prop
  | [], Q, e, s => Q e s
  | .code c :: k, Q, .normal, s => rwp P W c (stk P W k Q) s
  | .ops l :: k, Q, .normal, s => rops P W l s (stk P W k Q .normal)
  | .endb id :: k, Q, .exit i, s => if i = id then stk P W k Q .normal s else stk P W k Q (.exit i) s
  | .endl K :: k, Q, .normal, s => K s
  | _ :: k, Q, e, s => stk P W k Q e s
section
variable {k : List Item} {Q : Exit → AState → Prop} {s : AState}
theorem stk_nil {e : Exit} : stk P W [] Q e s = Q e s := rfl
theorem stk_skip : stk P W (.code .skip :: k) Q .normal s = stk P W k Q .normal s := rfl
theorem stk_ops {l : List AOper} : stk P W (.code (.ops l) :: k) Q .normal s = stk P W (.ops l :: k) Q .normal s := rfl
theorem stk_seq {x y : ACode} : stk P W (.code (.seq x y) :: k) Q .normal s = stk P W (.code x :: .code y :: k) Q .normal s := by
  have : thenA (rwp P W y (stk P W k Q)) (stk P W k Q) = stk P W (.code y :: k) Q := by funext e s; cases e <;> rfl
  show rwp P W x (thenA (rwp P W y (stk P W k Q)) (stk P W k Q)) s = rwp P W x (stk P W (.code y :: k) Q) s
  rw [this]
theorem stk_both {x y : ACode} (hx : stk P W (.code x :: k) Q .normal s) (hy : stk P W (.code y :: k) Q .normal s) : stk P W (.code (.both x y) :: k) Q .normal s := ⟨hx, hy⟩
theorem stk_block {id : Nat} {x : ACode} : stk P W (.code (.block id x) :: k) Q .normal s = stk P W (.code x :: .endb id :: k) Q .normal s := by
  have : blockA id (stk P W k Q) = stk P W (.endb id :: k) Q := by funext e s; cases e <;> rfl
  show rwp P W x (blockA id (stk P W k Q)) s = rwp P W x (stk P W (.endb id :: k) Q) s
  rw [this]
theorem stk_scope {x : ACode} : stk P W (.code (.scope x) :: k) Q .normal s = stk P W (.code x :: k) Q .normal s := rfl
theorem stk_exit {id : Nat} : stk P W (.code (.exit id) :: k) Q .normal s = stk P W k Q (.exit id) s := rfl
theorem stk_ret : stk P W (.code .ret :: k) Q .normal s = stk P W k Q .ret s := rfl
theorem stk_code_exit {c : ACode} {i : Nat} : stk P W (.code c :: k) Q (.exit i) s = stk P W k Q (.exit i) s := rfl
theorem stk_code_ret {c : ACode} : stk P W (.code c :: k) Q .ret s = stk P W k Q .ret s := rfl
theorem stk_ops_exit {l : List AOper} {i : Nat} : stk P W (.ops l :: k) Q (.exit i) s = stk P W k Q (.exit i) s := rfl
theorem stk_ops_ret {l : List AOper} : stk P W (.ops l :: k) Q .ret s = stk P W k Q .ret s := rfl
theorem stk_endb {id : Nat} : stk P W (.endb id :: k) Q .normal s = stk P W k Q .normal s := rfl
theorem stk_endb_exit {id i : Nat} : stk P W (.endb id :: k) Q (.exit i) s = if i = id then stk P W k Q .normal s else stk P W k Q (.exit i) s := rfl
theorem stk_endb_ret {id : Nat} : stk P W (.endb id :: k) Q .ret s = stk P W k Q .ret s := rfl
theorem stk_endl {K : AState → Prop} : stk P W (.endl K :: k) Q .normal s = K s := rfl
theorem stk_endl_exit {K : AState → Prop} {i : Nat} : stk P W (.endl K :: k) Q (.exit i) s = stk P W k Q (.exit i) s := rfl
theorem stk_endl_ret {K : AState → Prop} : stk P W (.endl K :: k) Q .ret s = stk P W k Q .ret s := rfl
theorem stk_ops_nil : stk P W (.ops [] :: k) Q .normal s = stk P W k Q .normal s := rfl
theorem stk_q {d : Option Nat} {m : AO} {r : List AOper} : stk P W (.ops (⟨d, none, .q m⟩ :: r) :: k) Q .normal s = (side m s ∧ stk P W (.ops r :: k) Q .normal (s.put d (val m s))) := rfl
theorem stk_alloc {d : Option Nat} {E : TypeId} {z : List Value} {r : List AOper} : stk P W (.ops (⟨d, none, .e (.alloc E z)⟩ :: r) :: k) Q .normal s = ∀ b, s.H b = none → stk P W (.ops r :: k) Q .normal ((⟨s.tm, s.H.put b (.cells E (z.map .v))⟩ : AState).put d (.v (.pointer (some ⟨b, 0, none⟩)))) := rfl
theorem stk_box {d : Option Nat} {E : TypeId} {x : Operand} {r : List AOper} : stk P W (.ops (⟨d, none, .e (.box E x)⟩ :: r) :: k) Q .normal s = ((oneOr (ev s.tm x)).all (·.one) = true ∧ ∀ b, s.H b = none → stk P W (.ops r :: k) Q .normal ((⟨s.tm, s.H.put b (.cells E (oneOr (ev s.tm x)))⟩ : AState).put d (.v (.pointer (some ⟨b, 0, none⟩))))) := rfl
theorem stk_bsl {d : Option Nat} {E sz : Nat} {xs : List Operand} {r : List AOper} : stk P W (.ops (⟨d, none, .e (.bsl E sz xs)⟩ :: r) :: k) Q .normal s = (((xs.map fun x => oneOr (ev s.tm x)).all fun r => r.length == sz && r.all (·.one)) = true ∧ stk P W (.ops r :: k) Q .normal (s.put d (.sl true sz (xs.map fun x => oneOr (ev s.tm x))))) := rfl
theorem stk_niq {d : Option Nat} {neg : Bool} {x : Operand} {r : List AOper} : stk P W (.ops (⟨d, none, .e (.niq neg x)⟩ :: r) :: k) Q .normal s = niqA (ev s.tm x) fun t => stk P W (.ops r :: k) Q .normal (s.put d (.v (.bool (flip neg t)))) := rfl
theorem stk_st {d : Option Nat} {n : Nat} {x y : Operand} {r : List AOper} : stk P W (.ops (⟨d, none, .e (.st n x y)⟩ :: r) :: k) Q .normal s = ast s.H n (ev s.tm x) (oneOr (ev s.tm y)) fun H' => stk P W (.ops r :: k) Q .normal ((⟨s.tm, H'⟩ : AState).put d .any) := rfl
theorem stk_guard {d : Option Nat} {t : Nat} {want : Bool} {a : Act1} {r : List AOper} {b : Bool} (hb : tget s.tm t = .v (.bool b)) (h1 : b = want → stk P W (.ops (⟨d, none, a⟩ :: r) :: k) Q .normal s) (h2 : b = !want → stk P W (.ops r :: k) Q .normal (s.put d (.v undef))) : stk P W (.ops (⟨d, some (t, want), a⟩ :: r) :: k) Q .normal s := by
  show guarded (some (t, want)) s _ _
  simp only [guarded, hb]
  exact ⟨h1, h2⟩
theorem stk_guard_no {d : Option Nat} {t : Nat} {want : Bool} {a : Act1} {r : List AOper} (hb : tget s.tm t = .v undef) (h2 : stk P W (.ops r :: k) Q .normal (s.put d (.v undef))) : stk P W (.ops (⟨d, some (t, want), a⟩ :: r) :: k) Q .normal s := by
  show guarded (some (t, want)) s _ _
  simp only [guarded, hb]
  exact h2
theorem stk_cond {c : Operand} {x y : ACode} {b : Bool} (hb : ev s.tm c = .v (.bool b)) (h1 : b = true → stk P W (.code x :: k) Q .normal s) (h2 : b = false → stk P W (.code y :: k) Q .normal s) : stk P W (.code (.cond c x y) :: k) Q .normal s := by
  show rwp P W (.cond c x y) (stk P W k Q) s
  simp only [rwp, hb]
  exact ⟨h1, h2⟩
/-- A loop: what holds at its head, with a number that falls. -/
theorem stk_loop {x : ACode} (I : Nat → AState → Prop) (n0 : Nat) (s0 : AState) (hw : Weak s s0) (h0 : I n0 s0) (h : ∀ n s1, I n s1 → stk P W (.code x :: .endl (fun s2 => ∃ j s3, j < n ∧ Weak s2 s3 ∧ I j s3) :: k) Q .normal s1) : stk P W (.code (.loop x) :: k) Q .normal s := by
  refine ⟨I, ⟨n0, s0, hw, h0⟩, fun n s1 hI => ?_⟩
  have h1 := h n s1 hI
  have : thenA (fun s2 => ∃ j s3, j < n ∧ Weak s2 s3 ∧ I j s3) (stk P W k Q) = stk P W (.endl (fun s2 => ∃ j s3, j < n ∧ Weak s2 s3 ∧ I j s3) :: k) Q := by funext e s; cases e <;> rfl
  rw [this]
  exact h1
/-- A call, by its contract. -/
theorem stk_call {d : Option Nat} {f : FuncId} {xs : List Operand} {r : List AOper} {R : AVal → AHeap → Prop} (h : ACalls P W f (xs.map (ev s.tm)) s.H R) (hk : ∀ v H', R v H' → stk P W (.ops r :: k) Q .normal ((⟨s.tm, H'⟩ : AState).put d v)) : stk P W (.ops (⟨d, none, .e (.call f xs)⟩ :: r) :: k) Q .normal s :=
  ⟨s, Weak.refl s, ACalls.mono h hk⟩
/-- A call, ahead of which what is owned is called less. -/
theorem stk_pureW {d : Option Nat} {f : FuncId} {xs : List Operand} {r : List AOper} {R : AVal → Prop} (s1 : AState) (hw : Weak s s1) (h : ACalls P W f (xs.map (ev s1.tm)) AHeap.none fun v _ => R v) (hk : ∀ v, R v → stk P W (.ops r :: k) Q .normal (s1.put d v)) : stk P W (.ops (⟨d, none, .e (.call f xs)⟩ :: r) :: k) Q .normal s :=
  ⟨s1, hw, ACalls.pure h fun v hv => hk v hv⟩
/-- A call that owns nothing. -/
theorem stk_pure {d : Option Nat} {f : FuncId} {xs : List Operand} {r : List AOper} {R : AVal → Prop} (h : ACalls P W f (xs.map (ev s.tm)) AHeap.none fun v _ => R v) (hk : ∀ v, R v → stk P W (.ops r :: k) Q .normal (s.put d v)) : stk P W (.ops (⟨d, none, .e (.call f xs)⟩ :: r) :: k) Q .normal s :=
  ⟨s, Weak.refl s, ACalls.pure h fun v hv => hk v hv⟩
theorem stk_callq {d : Option Nat} {f : FuncId} {xs : List Operand} {r : List AOper} {R : AVal → Prop} (h : ACalls P W f (xs.map (ev s.tm)) AHeap.none fun v _ => R v) (hk : ∀ v, R v → stk P W (.ops r :: k) Q .normal (s.put d v)) : stk P W (.ops (⟨d, none, .e (.callq f xs)⟩ :: r) :: k) Q .normal s :=
  ACalls.mono h fun v _ hv => hk v hv
end
/-- A function, by a run of its code. -/
theorem fn_run (hm : P.follows .mixedOrders = true) {f : FuncId} {af : AFn} (hc : compF P f = some af) {args : List AVal} (hl : args.length = af.np) {H : AHeap} {K : AVal → AHeap → Prop}
    (h : stk P W [.code af.body] (aret af.res K) .normal ⟨args.zipIdx.map (fun p => (p.2, p.1)), H⟩) : ACalls P W f args H K :=
  fn_sound hm hc hl (awp_of _ _ _ _ (fun _ _ h => h) h)
/-- The result as it is. -/
theorem aret_pure {res : List Nat} {R : AVal → Prop} {e : Exit} {s : AState} (he : e = .normal ∨ e = .ret) (h : R (retOf s.tm res)) : aret res (fun r _ => R r) e s :=
  ⟨he, AHeap.none, _, Sub.none _, .refl _, h⟩
end Go.Proofs.Ytidicfdcjoggpaa.M
