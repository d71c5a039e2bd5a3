/-
 Regions: their operations in the order that is printed; a region that draws its order, in one order for all.
-/
/-
 A region that draws its order: one order stands for all, if reads come ahead of all that writes, and of what makes memory one comes at a time.
-/
/-
 Regions that draw their order, compiled to one order; code; functions.
-/
/-
 Code and functions under the abstract machine.
-/
import Derived.Test.YtfaodacmdlnabaaGreatDoorMG5
import Derived.Scope
namespace Go.Proofs.YtfaodacmdlnabaaGreatDoor.M
open Go.RowKit
set_option linter.unusedVariables false
set_option linter.unusedSimpArgs false
variable {P : Program} {W : World} {S : Nat → Prop} {w : World} {N : Nat} {s : AState} {a : Act}

inductive Act1 where
 | q (m : AO)
 | e (m : AE)
structure AOper where
 dst : Option Nat
 guard : Option (Nat × Bool)
 act : Act1
def astep (P : Program) (W : World) (o : AOper) (s : AState) (K : AState → Prop) : Prop :=
 match o.act with
 | .q m => aval m s fun x => K (s.put o.dst x)
 | .e m => aeff P W m o.dst s K
/-- Under a guard. -/
def guarded (g : Option (Nat × Bool)) (s : AState) (A B : Prop) : Prop :=
 match g with
 | none => A
 | some (t, want) => match tget s.tm t with
  | .v (.bool b) => (b = want → A) ∧ (b = !want → B)
  | .v (.tuple _) => B
  | _ => False
def aops (P : Program) (W : World) : List AOper → AState → (AState → Prop) → Prop
 | [], s, K => K s
 | o :: r, s, K => guarded o.guard s (astep P W o s fun s' => aops P W r s' K) (aops P W r (s.put o.dst (.v undef)) K)
def compO (P : Program) (N : Nat) (ops : Array Oper) (o : Oper) : Option AOper :=
 if dstOk N o.dst then
  match (match o.guard with
   | none => some none
   | some (j, want) => match (ops[j]?).bind (·.dst) with
    | some t => if t < N then some (some (t, want)) else none
    | none => none) with
  | some g => match compM P o.op with
   | some m => some ⟨o.dst, g, .q m⟩
   | none => match compE P o.op with
    | some m => some ⟨o.dst, g, .e m⟩
    | none => none
  | none => none
 else none
theorem wanted_of {ops : Array Oper} (hr : SR W N S s a w) {o : Oper} {g : Option (Nat × Bool)} {A B : Prop}
  (hg : (match o.guard with
   | none => some none
   | some (j, want) => match (ops[j]?).bind (·.dst) with
    | some t => if t < N then some (some (t, want)) else none
    | none => none) = some g) (h : guarded g s A B) : (Region.wanted o (yielded ops a.tmps) = true ∧ A) ∨ (Region.wanted o (yielded ops a.tmps) = false ∧ B) := by
 cases hgd : o.guard with
 | none =>
  rw [hgd] at hg
  cases hg
  exact .inl ⟨by simp [Region.wanted, hgd], h⟩
 | some jw =>
  obtain ⟨j, want⟩ := jw
  rw [hgd] at hg
  dsimp only at hg
  split at hg
  ·rename_i t ht
   split at hg
   ·rename_i htN
    cases hg
    have hv := hr.tm t
    have hget : a.tmps[t]? = some (a.tmps.getD t undef) := by simp [show t < a.tmps.size from Nat.lt_of_lt_of_le htN hr.size]
    simp only [guarded] at h
    have hy : yielded ops a.tmps j = match a.tmps.getD t undef with | .bool b => some b | _ => none := by
     unfold yielded
     rw [ht]
     simp only [Option.bind_some, hget]
     cases a.tmps.getD t undef <;> rfl
    generalize a.tmps.getD t undef = u at hv hy
    split at h
    ·rename_i b e
     rw [e] at hv
     cases hv
     simp only [Region.wanted, hgd, hy]
     by_cases hb : b = want
     ·exact .inl ⟨by simp [hb], h.1 hb⟩
     ·exact .inr ⟨by simp [hb], h.2 (by cases b <;> cases want <;> simp_all)⟩
    ·rename_i vs e
     rw [e] at hv
     cases hv
     simp only [Region.wanted, hgd, hy]
     exact .inr ⟨by simp, h⟩
    ·exact h.elim
   ·cases hg
  ·cases hg
/-- What is known at an exit. -/
def Exit.ok : Exit → Bool
 | .normal | .exit _ | .ret | .goto _ => true
 | _ => false
def conc (W : World) (N : Nat) (S : Nat → Prop) (s : AState) (w : World) (Q : Exit → AState → Prop) (e : Exit) (a' : Act) (w' : World) : Prop := Exit.ok e = true ∧ ∃ S' s', Q e s' ∧ Ext S s.H w S' s'.H w' ∧ SR W N S' s' a' w'
theorem conc.from {S1 : Nat → Prop} {s1 : AState} {w1 : World} {Q : Exit → AState → Prop} (hx : Ext S s.H w S1 s1.H w1) {e : Exit} {a' : Act} {w' : World} (h : conc W N S1 s1 w1 Q e a' w') : conc W N S s w Q e a' w' :=
 ⟨h.1, let ⟨S', s', q, x, r⟩ := h.2; ⟨S', s', q, hx.trans x, r⟩⟩
theorem conc.mono {Q Q' : Exit → AState → Prop} {e : Exit} {a' : Act} {w' : World} (h : conc W N S s w Q e a' w') (hq : ∀ s', Q e s' → Q' e s') : conc W N S s w Q' e a' w' :=
 ⟨h.1, let ⟨S', s', q, x, r⟩ := h.2; ⟨S', s', hq _ q, x, r⟩⟩
theorem Then.conc {Q : Exit → AState → Prop} {a' : Act} {w' : World} (h : Then W N S s w (Q .normal) a' w') : conc W N S s w Q .normal a' w' := ⟨rfl, h⟩
/-- One operation, as it is compiled. -/
theorem astep_sound {Q : Exit → Act → World → Prop} (hr : SR W N S s a w) {ops : Array Oper} {o : Oper} {ao : AOper} (hc : compO P N ops o = some ao) {K : AState → Prop} (h : astep P W ao s K) : ao.dst = o.dst ∧ o.wp P a w (Then W N S s w K) Q := by
 unfold compO at hc
 split at hc
 ·rename_i hd
  split at hc
  ·rename_i g hg
   split at hc
   ·rename_i m hm
    cases hc
    refine ⟨rfl, ?_⟩
    have h : aval m s (fun x => K (s.put o.dst x)) := h
    obtain ⟨x, u, hk, hv, hrun⟩ := aval_sound (G := fun w' => w' = w) hr (fun _ w' e => by subst e; exact Quiet.refl _) hm h
    exact wp_value (hrun w rfl) ⟨S, _, hk, by rw [show (s.put o.dst x).H = s.H by cases o.dst <;> rfl]; exact Ext.refl _ _ _, hr.put hd hv⟩
   ·split at hc
    ·rename_i m hm
     cases hc
     exact ⟨rfl, aeff_sound hr hd hm h⟩
    ·cases hc
  ·cases hc
 ·cases hc
theorem compO_parts {ops : Array Oper} {o : Oper} {ao : AOper} (hc : compO P N ops o = some ao) : dstOk N o.dst = true ∧ ao.dst = o.dst ∧ (match o.guard with
   | none => some none
   | some (j, want) => match (ops[j]?).bind (·.dst) with
    | some t => if t < N then some (some (t, want)) else none
    | none => none) = some ao.guard := by
 unfold compO at hc
 split at hc
 ·rename_i hd
  split at hc
  ·rename_i g hg
   split at hc
   ·cases hc; exact ⟨hd, rfl, hg⟩
   ·split at hc
    ·cases hc; exact ⟨hd, rfl, hg⟩
    ·cases hc
  ·cases hc
 ·cases hc
theorem SR.putUndef (hr : SR W N S s a w) {d : Option Nat} (hd : dstOk N d = true) : SR W N S (s.put d (.v undef)) (a.put d undef) w := hr.put hd (.v undef)
theorem put_same (s : AState) (d : Option Nat) (x : AVal) : (s.put d x).H = s.H := by cases d <;> rfl
/-- The operations of a region whose order is the text's. -/
theorem aops_list {ops : Array Oper} {Q : Exit → Act → World → Prop} : ∀ (l : List Oper) (al : List AOper), l.mapM (compO P N ops) = some al → ∀ (S : Nat → Prop) (s : AState) (a : Act) (w : World) (K : AState → Prop), SR W N S s a w → aops P W al s K → (∀ a' w', Then W N S s w K a' w' → Q .normal a' w') → wpList P ops Q l a w
 | [], al, h, S, s, a, w, K, hr, hk, hq => by
  simp at h; subst h
  exact wpList_nil (hq _ _ ⟨S, s, hk, Ext.refl _ _ _, hr⟩)
 | o :: l, al, h, S, s, a, w, K, hr, hk, hq => by
  simp only [List.mapM_cons, Option.bind_eq_bind, Option.bind_eq_some_iff, Option.pure_def, Option.some.injEq] at h
  obtain ⟨ao, hao, al', hal, rfl⟩ := h
  obtain ⟨hd, hdst, hg⟩ := compO_parts hao
  simp only [aops] at hk
  refine wpList_step fun K' hK' => ?_
  rcases wanted_of hr hg hk with ⟨hw, hk⟩ | ⟨hw, hk⟩
  ·rw [if_pos hw]
   have h1 := (astep_sound (Q := Q) hr hao hk).2
   refine Oper.wp_mono (fun a1 w1 ⟨S1, s1, hk1, hx1, hr1⟩ => hK' _ _ ?_) h1
   exact aops_list l al' hal S1 s1 a1 w1 K hr1 hk1 (fun a' w' ⟨S2, s2, hk2, hx2, hr2⟩ => hq _ _ ⟨S2, s2, hk2, hx1.trans hx2, hr2⟩)
  ·rw [if_neg (by rw [hw]; simp)]
   rw [hdst] at hk
   refine hK' _ _ (aops_list l al' hal S _ _ w K (hr.putUndef hd) hk (fun a' w' ⟨S2, s2, hk2, hx2, hr2⟩ => hq _ _ ⟨S2, s2, hk2, ?_, hr2⟩))
   rw [put_same] at hx2; exact hx2
theorem region_plain {id : Nat} {ops : Array Oper} {al : List AOper} (hc : ops.toList.mapM (compO P N ops) = some al) {Q : Exit → AState → Prop} (hr : SR W N S s a w) (h : aops P W al s (Q .normal)) : (Code.region id ops false).wp P (conc W N S s w Q) a w :=
 wp_region_list (aops_list _ _ hc S s a w _ hr h (fun _ _ ht => ht.conc))
end Go.Proofs.YtfaodacmdlnabaaGreatDoor.M
namespace Go.Proofs.YtfaodacmdlnabaaGreatDoor.M
open Go.RowKit
set_option linter.unusedVariables false
set_option linter.unusedSimpArgs false
section
variable {P : Program} {ops : Array Oper} {Q : Exit → Act → World → Prop} {Wr : Nat → Bool}
def wpQ (P : Program) (ops : Array Oper) (Q : Exit → Act → World → Prop) (Wr : Nat → Bool) : Nat → Array Bool → Act → World → Prop
 | 0, listed, a, w => Region.ready .any ops listed = [] ∧ Q .normal a w
 | fuel + 1, listed, a, w =>
  (Region.ready .any ops listed = [] → Q .normal a w) ∧
  ∀ i ∈ Region.ready .any ops listed, wpOp P ops Q i (fun a' w' => (Wr i = false → Quiet w w') ∧ wpQ P ops Q Wr fuel (listed.setIfInBounds i true) a' w') a w
theorem wpAny_of_Q : ∀ (fuel : Nat) (listed : Array Bool) (a : Act) (w : World), wpQ P ops Q Wr fuel listed a w → wpAny P .any ops Q fuel listed a w
 | 0, _, _, _, h => h
 | fuel + 1, _, _, _, h => ⟨h.1, fun i hi => wpOp_mono (fun a' w' h' => wpAny_of_Q fuel _ a' w' h'.2) (h.2 i hi)⟩
def Closed (ops : Array Oper) (listed : Array Bool) : Prop :=
 ∀ (j : Nat) (o : Oper), ops[j]? = some o → listed.getD j true = true → ∀ e ∈ o.after, Region.binds .any e = true → listed.getD e.on true = true
theorem getD_true_of {l : Array Bool} {k : Nat} (h : l.getD k false = true) : l.getD k true = true := by
 rcases Nat.lt_or_ge k l.size with h' | h'
 ·simp [h'] at h ⊢; exact h
 ·simp [Array.getElem?_eq_none h'] at h
theorem Closed.step {listed : Array Bool} {i : Nat} (h : Closed ops listed) (hr : i ∈ Region.ready .any ops listed) : Closed ops (listed.setIfInBounds i true) := by
 intro j o hj hl e he hb
 obtain ⟨h0, oi, hoi, hall⟩ := mem_ready.1 hr
 by_cases hij : i = j
 ·subst hij
  rw [hoi] at hj
  cases hj
  exact getD_true_of (getD_set_true (hall e he hb))
 ·rw [getD_set_ne true hij] at hl
  have h1 := h j o hj hl e he hb
  by_cases hie : i = e.on
  ·rw [← hie]
   rcases Nat.lt_or_ge i listed.size with h' | h'
   ·simp [h']
   ·simp
  ·rw [getD_set_ne true hie]; exact h1
/-- j waits for i. -/
def reach (ops : Array Oper) (i : Nat) : Nat → Nat → Bool
 | 0, _ => false
 | n + 1, j => match ops[j]? with
  | some o => o.after.toList.any fun e => Region.binds .any e && (e.on == i || reach ops i n e.on)
  | none => false
theorem reach_spec {i : Nat} {listed : Array Bool} (hc : Closed ops listed) (hi : listed.getD i true = false) : ∀ (n j : Nat), reach ops i n j = true → listed.getD j true = false ∧ j ∉ Region.ready .any ops listed
 | 0, j, h => by cases h
 | n + 1, j, h => by
  simp only [reach] at h
  split at h
  ·rename_i o ho
   simp only [List.any_eq_true, Bool.and_eq_true, Bool.or_eq_true, beq_iff_eq] at h
   obtain ⟨e, he, hb, h⟩ := h
   have hun : listed.getD e.on true = false := by
    rcases h with h | h
    ·rw [h]; exact hi
    ·exact (reach_spec hc hi n e.on h).1
   have he' : e ∈ o.after := by simpa using he
   constructor
   ·cases hl : listed.getD j true with
    | false => rfl
    | true => rw [hc j o ho hl e he' hb] at hun; cases hun
   ·intro hr
    obtain ⟨_, o', ho', hall⟩ := mem_ready.1 hr
    rw [ho] at ho'
    cases ho'
    have := getD_true_of (hall e he' hb)
    rw [hun] at this; cases this
  ·cases h
/-- Number i may be taken first. -/
theorem wpQ_first {i : Nat} {oi : Oper} {v : Value} {mem : Bool} (hi : ops[i]? = some oi) (hsel : ∀ (j : Nat) (o : Oper) cs b, ops[j]? = some o → o.op ≠ .select cs b)
  (hQ : ∀ c a w, Q (.panic c) (a.put oi.dst v) w → Q (.panic c) a w) :
  ∀ (fuel : Nat) (listed : Array Bool) (a : Act) (w : World), Closed ops listed →
   (∀ j oj, ops[j]? = some oj → j ≠ i → listed.getD j true = false → (∀ e ∈ oj.after, Region.binds .any e = true → e.on ≠ i) → oi.apart ops oj = true) →
   (mem = true → ∀ j, Wr j = true → j ∈ Region.ready .any ops listed → False) → (mem = true → ∀ j, Wr j = true → listed.getD j true = false → reach ops i ops.size j = true) →
   i ∈ Region.ready .any ops listed → YieldsIf P ops (fun w' => mem = true → Quiet w w') oi v a →
   wpQ P ops Q Wr fuel (listed.setIfInBounds i true) (a.put oi.dst v) w → wpQ P ops Q Wr (fuel + 1) listed a w := by
 intro fuel
 induction fuel with
 | zero =>
  intro listed a w hcl _ _ _ hr hy H
  refine ⟨fun h => (by rw [h] at hr; cases hr), fun j hj => ?_⟩
  by_cases hji : j = i
  ·subst hji; exact hy.wpOp hi (fun _ => Quiet.refl w) ⟨fun _ => Quiet.refl w, H⟩
  ·have := ready_mono hj hji
   rw [H.1] at this
   cases this
 | succ fuel ih =>
  intro listed a w hcl hfree hnw hreach hr hy H
  refine ⟨fun h => (by rw [h] at hr; cases hr), fun j hj => ?_⟩
  by_cases hji : j = i
  ·subst hji; exact hy.wpOp hi (fun _ => Quiet.refl w) ⟨fun _ => Quiet.refl w, H⟩
  ·have h1 := H.2 j (ready_mono hj hji)
   obtain ⟨hjun, oj, hoj, hall⟩ := mem_ready.1 hj
   have hnot : ∀ e ∈ oj.after, Region.binds .any e = true → e.on ≠ i := fun e he hb heq => by
    have h1 := hall e he hb
    have h0 := (mem_ready.1 hr).1
    rw [heq] at h1
    rcases Nat.lt_or_ge i listed.size with h' | h'
    ·simp [h'] at h0 h1; rw [h0] at h1; cases h1
    ·simp [Array.getElem?_eq_none h'] at h1
   have h2 := wpOp_putIf hoj (hfree j oj hoj hji hjun hnot) (fun cs b => hsel i oi cs b hi) (fun cs b => hsel j oj cs b hoj) hQ hy h1
   have hfree' : ∀ k ok, ops[k]? = some ok → k ≠ i → (listed.setIfInBounds j true).getD k true = false →
     (∀ e ∈ ok.after, Region.binds .any e = true → e.on ≠ i) → oi.apart ops ok = true := fun k ok hk hki hun hno => by
    refine hfree k ok hk hki ?_ hno
    by_cases hjk : j = k
    ·subst hjk; exact hjun
    ·rw [getD_set_ne true hjk] at hun; exact hun
   have hcl' := hcl.step hj
   have hr' := ready_mono hr (Ne.symm hji)
   have hi' : (listed.setIfInBounds j true).getD i true = false := (mem_ready.1 hr').1
   have hreach' : mem = true → ∀ k, Wr k = true → (listed.setIfInBounds j true).getD k true = false → reach ops i ops.size k = true := fun hm k hk hun => by
    refine hreach hm k hk ?_
    by_cases hjk : j = k
    ·subst hjk; exact hjun
    ·rw [getD_set_ne true hjk] at hun; exact hun
   refine wpOp_mono (fun a' w' h3 => ?_) h2
   obtain ⟨h3y, h3q, h3w⟩ := h3
   refine ⟨h3q, ih (listed.setIfInBounds j true) a' w' hcl' hfree' (fun hm k hk hkr => ?_) hreach' hr' ?_ ?_⟩
   ·exact (reach_spec hcl' hi' _ k (hreach' hm k hk (mem_ready.1 hkr).1)).2 hkr
   ·refine h3y.imp (fun ⟨x, y⟩ => ⟨x, fun w2 hw2 => y w2 (fun hm => ?_)⟩) id
    have hwj : Wr j = false := by
     cases e : Wr j with
     | false => rfl
     | true => exact absurd hj (fun h => hnw hm j e h)
    exact (h3q hwj).trans (hw2 hm)
   ·rw [Array.setIfInBounds_comm _ _ hji]
    exact h3w
end
end Go.Proofs.YtfaodacmdlnabaaGreatDoor.M
namespace Go.Proofs.YtfaodacmdlnabaaGreatDoor.M
open Go.RowKit
set_option linter.unusedVariables false
set_option linter.unusedSimpArgs false
variable {P : Program} {W : World} {S : Nat → Prop} {w : World} {N : Nat} {s : AState} {a : Act}

def AOper.quiet (o : AOper) : AOper := match o.act with
 | .q m => o
 | .e m => ⟨o.dst, o.guard, .e m.quiet⟩
def AOper.mem (o : AOper) : Bool := match o.act with
 | .q m => m.mem
 | .e _ => false
def AOper.quick (o : AOper) : Bool := match o.act with
 | .q _ => true
 | .e _ => false
def AOper.writes (o : AOper) : Bool := match o.act with
 | .q _ => false
 | .e m => m.writes
/-- A call that reads what is owned and hands a slice: taken as it is, whatever is read beside it. -/
def loud (P : Program) (ops : Array Oper) (i : Nat) : AOper → Bool
 | ⟨_, _, .e (.call f _)⟩ => (match (ops[i]?).bind (fun o => P.underlying o.type) with | some (.slice _) | some .string => true | _ => false) &&
   (match P.funcs[f]? with | some fn => fn.params.toList.any (fun t => match P.underlying t with | some (.pointer _) => true | _ => false) | none => false)
 | _ => false
/-- Number i as it is taken in a drawn region: a call that nothing read is held against is taken as it is, else as one that writes nothing. -/
def drawn (P : Program) (N : Nat) (ops : Array Oper) (cs : Array (Option AOper)) (i : Nat) : Option AOper :=
 match (cs[i]?).bind id with
 | some ao =>
  if loud P ops i ao || (List.range ops.size).all fun j => ((cs[j]?).bind id).all fun aj => !aj.mem || reach ops j ops.size i || reach ops i ops.size j then some ao else some ao.quiet
 | none => none
def wrOf (P : Program) (N : Nat) (ops : Array Oper) (cs : Array (Option AOper)) (i : Nat) : Bool := match drawn P N ops cs i with
 | some ao => ao.writes
 | none => decide (i < ops.size)
def canTake (P : Program) (N : Nat) (ops : Array Oper) (cs : Array (Option AOper)) (listed : Array Bool) (i : Nat) : Bool :=
 match drawn P N ops cs i with
 | some ao => ao.quick && Region.free .any ops listed i && (!ao.mem || (List.range ops.size).all fun j => !wrOf P N ops cs j || listed.getD j true || reach ops i ops.size j)
 | none => false
inductive ACode where
 | skip
 | ops (l : List AOper)
 | seq (x y : ACode)
 | both (x y : ACode)
 | cond (c : Operand) (x y : ACode)
 | block (id : Nat) (x : ACode)
 | loop (x : ACode)
 | exit (id : Nat)
 | ret
 | scope (x : ACode)
 | label (l : Nat)
 | goto (l : Nat)
 | jumps (l1 l2 : Nat) (x y z : ACode)
def thenA (K : AState → Prop) (Q : Exit → AState → Prop) : Exit → AState → Prop
 | .normal, s => K s
 | .exit id, s => Q (.exit id) s
 | .ret, s => Q .ret s
 | e, s => Q e s
def blockA (id : Nat) (Q : Exit → AState → Prop) : Exit → AState → Prop
 | .normal, s => Q .normal s
 | .exit i, s => if i = id then Q .normal s else Q (.exit i) s
 | .ret, s => Q .ret s
 | e, s => Q e s
def noGotoA (Q : Exit → AState → Prop) : Exit → AState → Prop
 | .normal, s => Q .normal s
 | .goto _, _ => False
 | .exit id, s => Q (.exit id) s
 | .ret, s => Q .ret s
 | e, s => Q e s
/-- As Q; by a goto to one of two labels: G1, G2. -/
def jumpA (l1 l2 : Nat) (G1 G2 : AState → Prop) (Q : Exit → AState → Prop) : Exit → AState → Prop
 | .normal, s => Q .normal s
 | .goto l, s => if l = l1 then G1 s else l = l2 ∧ G2 s
 | .exit id, s => Q (.exit id) s
 | .ret, s => Q .ret s
 | e, s => Q e s
/-- One in front of what follows. -/
def ahead (o : AOper) : ACode → ACode
 | .ops l => .ops (o :: l)
 | .seq (.ops l) t => .seq (.ops (o :: l)) t
 | .skip => .ops [o]
 | t => .seq (.ops [o]) t
/-- A drawn region: reads as soon as they may, of what makes memory one at a time; where two may come, both ways. -/
def compT (P : Program) (N : Nat) (ops : Array Oper) (cs : Array (Option AOper)) : Nat → Array Bool → Option ACode
 | 0, listed => if (Region.ready .any ops listed).isEmpty then some .skip else none
 | n + 1, listed =>
  match (Region.ready .any ops listed).find? (canTake P N ops cs listed) with
  | some i => match drawn P N ops cs i, compT P N ops cs n (listed.setIfInBounds i true) with
   | some o, some t => some (ahead o t)
   | _, _ => none
  | none => match Region.ready .any ops listed with
   | [] => some .skip
   | [i] => match drawn P N ops cs i, compT P N ops cs n (listed.setIfInBounds i true) with
    | some o, some t => some (ahead o t)
    | _, _ => none
   | [i, j] => match drawn P N ops cs i, compT P N ops cs n (listed.setIfInBounds i true), drawn P N ops cs j, compT P N ops cs n (listed.setIfInBounds j true) with
    | some o, some t, some o', some t' => some (.both (ahead o t) (ahead o' t'))
    | _, _, _, _ => none
   | _ => none
def compD (P : Program) (N : Nat) (ops : Array Oper) : Option ACode :=
 if Region.noSelect ops then compT P N ops (ops.map (compO P N ops)) ops.size (Array.replicate ops.size false) else none
def awp (P : Program) (W : World) : ACode → (Exit → AState → Prop) → AState → Prop
 | .skip, Q, s => Q .normal s
 | .ops l, Q, s => aops P W l s (Q .normal)
 | .seq x y, Q, s => awp P W x (thenA (awp P W y Q) Q) s
 | .both x y, Q, s => awp P W x Q s ∧ awp P W y Q s
 | .cond c x y, Q, s => match ev s.tm c with
  | .v (.bool t) => (t = true → awp P W x Q s) ∧ (t = false → awp P W y Q s)
  | _ => False
 | .block id x, Q, s => awp P W x (blockA id Q) s
 | .loop x, Q, s => ∃ (I : Nat → AState → Prop), (∃ n s0, Weak s s0 ∧ I n s0) ∧ ∀ n s1, I n s1 → awp P W x (thenA (fun s2 => ∃ k s3, k < n ∧ Weak s2 s3 ∧ I k s3) Q) s1
 | .exit id, Q, s => Q (.exit id) s
 | .ret, Q, s => Q .ret s
 | .scope x, Q, s => awp P W x (noGotoA Q) s
 | .label _, Q, s => Q .normal s
 | .goto l, Q, s => Q (.goto l) s
 | .jumps l1 l2 x y z, Q, s => ∃ (J1 J2 : Nat → AState → Prop),
   awp P W x (jumpA l1 l2 (fun s2 => ∃ k s3, Weak s2 s3 ∧ J1 k s3) (fun s2 => ∃ k s3, Weak s2 s3 ∧ J2 k s3) Q) s ∧
   (∀ n s1, J1 n s1 → awp P W y (jumpA l1 l2 (fun s2 => ∃ k s3, k < n ∧ Weak s2 s3 ∧ J1 k s3) (fun s2 => ∃ k s3, k < n ∧ Weak s2 s3 ∧ J2 k s3) Q) s1) ∧
   (∀ n s1, J2 n s1 → awp P W z (jumpA l1 l2 (fun s2 => ∃ k s3, k < n ∧ Weak s2 s3 ∧ J1 k s3) (fun s2 => ∃ k s3, k < n ∧ Weak s2 s3 ∧ J2 k s3) Q) s1)
theorem awp_ahead {o : AOper} {t : ACode} {Q : Exit → AState → Prop} {s : AState} (h : awp P W (ahead o t) Q s) : guarded o.guard s (astep P W o s fun s' => awp P W t Q s') (awp P W t Q (s.put o.dst (.v undef))) := by
 unfold ahead at h
 split at h
 ·exact h
 ·exact h
 ·exact h
 ·exact h
theorem drawn_parts {ops : Array Oper} {i : Nat} {ao : AOper} (h : drawn P N ops (ops.map (compO P N ops)) i = some ao) : ∃ o ao', ops[i]? = some o ∧ compO P N ops o = some ao' ∧ (ao = ao' ∨ ao = ao'.quiet) := by
 unfold drawn at h
 split at h
 ·rename_i ao' e
  simp only [Array.getElem?_map] at e
  cases ho : ops[i]? with
  | none => simp [ho] at e
  | some o =>
   simp only [ho, Option.map_some, Option.bind_some, id] at e
   refine ⟨o, ao', rfl, e, ?_⟩
   split at h
   ·cases h; exact .inl rfl
   ·cases h; exact .inr rfl
 ·cases h
theorem compE_quiet {o : Op} {m : AE} (h : compE P o = some m) (hw : m.writes = false) : m.quiet = m := by
 cases m <;> first | rfl | cases hw
theorem compO_act {ops : Array Oper} {o : Oper} {ao : AOper} (hc : compO P N ops o = some ao) : (∀ m, ao.act = .q m → compM P o.op = some m) ∧ (∀ m, ao.act = .e m → compE P o.op = some m) := by
 unfold compO at hc
 split at hc
 ·split at hc
  ·split at hc
   ·rename_i m' hm'
    simp only [Option.some.injEq] at hc
    subst hc
    exact ⟨(fun m h => by cases h; exact hm'), (fun m h => by cases h)⟩
   ·split at hc
    ·rename_i m' hm'
     simp only [Option.some.injEq] at hc
     subst hc
     exact ⟨(fun m h => by cases h), (fun m h => by cases h; exact hm')⟩
    ·cases hc
  ·cases hc
 ·cases hc
theorem wpQ_done {ops : Array Oper} {Q : Exit → Act → World → Prop} {Wr : Nat → Bool} {listed : Array Bool} {a : Act} {w : World} (hr : Region.ready .any ops listed = []) (h : Q .normal a w) : ∀ fuel, wpQ P ops Q Wr fuel listed a w
 | 0 => ⟨hr, h⟩
 | _ + 1 => ⟨fun _ => h, by rw [hr]; simp⟩
theorem draw_code {ops : Array Oper} (hns : Region.noSelect ops = true) {Q : Exit → Act → World → Prop} (hQ : ∀ c a w, ¬ Q (.panic c) a w) : ∀ (fuel : Nat) (listed : Array Bool) (ac : ACode), compT P N ops (ops.map (compO P N ops)) fuel listed = some ac → Closed ops listed →
  ∀ (S : Nat → Prop) (s : AState) (a : Act) (w : World) (K : Exit → AState → Prop), SR W N S s a w → awp P W ac K s → (∀ a' w', Then W N S s w (K .normal) a' w' → Q .normal a' w') → wpQ P ops Q (wrOf P N ops (ops.map (compO P N ops))) fuel listed a w := by
 intro fuel
 induction fuel with
 | zero =>
  intro listed ac h hcl S s a w K hr hk hq
  simp only [compT] at h
  split at h
  ·rename_i hre
   cases h
   exact ⟨by simpa using hre, hq _ _ ⟨S, s, hk, Ext.refl _ _ _, hr⟩⟩
  ·cases h
 | succ fuel ih =>
  intro listed ac h hcl S s a w K hr hk hq
  have one : ∀ (i : Nat) (ao : AOper) (t : ACode), i ∈ Region.ready .any ops listed → drawn P N ops (ops.map (compO P N ops)) i = some ao → compT P N ops (ops.map (compO P N ops)) fuel (listed.setIfInBounds i true) = some t →
    guarded ao.guard s (astep P W ao s fun s' => awp P W t K s') (awp P W t K (s.put ao.dst (.v undef))) → wpOp P ops Q i (fun a' w' => (wrOf P N ops (ops.map (compO P N ops)) i = false → Quiet w w') ∧ wpQ P ops Q (wrOf P N ops (ops.map (compO P N ops))) fuel (listed.setIfInBounds i true) a' w') a w := by
   intro i ao t hready hao ht hk
   obtain ⟨o, ao', ho, hco, hsame⟩ := drawn_parts hao
   obtain ⟨hd, hdst', hg'⟩ := compO_parts hco
   have hdst : ao.dst = o.dst := by
    rcases hsame with rfl | rfl
    ·exact hdst'
    ·unfold AOper.quiet; split <;> exact hdst'
   have hgd : ao.guard = ao'.guard := by
    rcases hsame with rfl | rfl
    ·rfl
    ·unfold AOper.quiet; split <;> rfl
   rw [← hgd] at hg'
   have hrest := fun S s a w => ih (listed.setIfInBounds i true) t ht (hcl.step hready) S s a w K
   unfold wpOp
   simp only [ho]
   rcases wanted_of hr hg' hk with ⟨hw, hk⟩ | ⟨hw, hk⟩
   ·rw [if_pos hw]
    left
    have hstep : o.wp P a w (fun a' w' => Then W N S s w (fun s' => awp P W t K s') a' w' ∧ (wrOf P N ops (ops.map (compO P N ops)) i = false → Quiet w w')) Q := by
     have hwr : wrOf P N ops (ops.map (compO P N ops)) i = ao.writes := by unfold wrOf; rw [hao]
     unfold astep at hk
     cases hact : ao.act with
     | q m =>
      rw [hact] at hk
      have hsame2 : ao = ao' := by
       rcases hsame with h1 | h1
       ·exact h1
       ·unfold AOper.quiet at h1
        split at h1
        ·exact h1
        ·subst h1; cases hact
      have hm : compM P o.op = some m := by
       rw [← hsame2] at hco
       exact (compO_act hco).1 m hact
      obtain ⟨x, u, hk2, hv, hrun⟩ := aval_sound (G := fun w' => w' = w) hr (fun _ w' e => by subst e; exact Quiet.refl _) hm hk
      refine wp_value (hrun w rfl) ⟨⟨S, _, hk2, by rw [put_same]; exact Ext.refl _ _ _, by rw [hdst]; exact hr.put hd hv⟩, fun _ => Quiet.refl w⟩
     | e m =>
      rw [hact] at hk
      rw [hdst] at hk
      obtain ⟨m', hm', hmm⟩ : ∃ m', compE P o.op = some m' ∧ (m = m' ∨ m = m'.quiet) := by
       have hact' : ∃ m', ao'.act = .e m' ∧ (m = m' ∨ m = m'.quiet) := by
        rcases hsame with rfl | h1
        ·exact ⟨m, hact, .inl rfl⟩
        ·unfold AOper.quiet at h1
         split at h1
         ·subst h1; exact ⟨m, hact, .inl rfl⟩
         ·rename_i m2 e2
          subst h1
          simp at hact
          exact ⟨m2, e2, .inr hact.symm⟩
       obtain ⟨m', h1, h2⟩ := hact'
       exact ⟨m', (compO_act hco).2 m' h1, h2⟩
      by_cases hwm : m.writes = false
      ·have hmq : m = m'.quiet := by
        rcases hmm with rfl | h
        ·have := compE_quiet hm' hwm; exact this.symm
        ·exact h
       rw [hmq] at hk hwm
       refine Oper.wp_mono (fun a' w' h => ⟨h.1, fun _ => h.2⟩) (aeff_quiet (Q := Q) hr hd hm' hwm hk)
      ·have hmq : m = m' := by
        rcases hmm with h | h
        ·exact h
        ·rw [h] at hwm ⊢
         cases m' <;> first | rfl | exact absurd rfl hwm
       rw [hmq] at hk
       refine Oper.wp_mono (fun a' w' h => ⟨h, fun e => ?_⟩) (aeff_sound (Q := Q) hr hd hm' hk)
       exfalso
       rw [hwr] at e
       unfold AOper.writes at e
       rw [hact] at e
       exact hwm e
    refine Oper.wp_mono (fun a1 w1 h => ⟨h.2, ?_⟩) hstep
    obtain ⟨⟨S1, s1, hk1, hx1, hr1⟩, _⟩ := h
    exact hrest S1 s1 a1 w1 hr1 hk1 (fun a' w' ⟨S2, s2, hk2, hx2, hr2⟩ => hq _ _ ⟨S2, s2, hk2, hx1.trans hx2, hr2⟩)
   ·rw [if_neg (by rw [hw]; simp)]
    refine ⟨fun _ => Quiet.refl w, hrest S (s.put ao.dst (.v undef)) _ w (by rw [hdst]; exact hr.putUndef hd) hk (fun a' w' ⟨S2, s2, q2, hx2, hr2⟩ => hq _ _ ⟨S2, s2, q2, ?_, hr2⟩)⟩
    rw [put_same] at hx2; exact hx2
  simp only [compT] at h
  split at h
  ·rename_i i hfind
   have htake := List.find?_some hfind
   have hready := List.mem_of_find?_eq_some hfind
   split at h
   ·rename_i ao t hao ht
    cases h
    have hk := awp_ahead hk
    unfold canTake at htake
    rw [hao] at htake
    simp only [Bool.and_eq_true, Bool.or_eq_true] at htake
    obtain ⟨⟨hquick, hfree⟩, hmem⟩ := htake
    obtain ⟨o, ao', ho, hco, hsame⟩ := drawn_parts hao
    obtain ⟨hd, hdst', hg'⟩ := compO_parts hco
    obtain ⟨m, hact⟩ : ∃ m, ao.act = .q m := by
     unfold AOper.quick at hquick
     split at hquick
     ·exact ⟨_, by assumption⟩
     ·cases hquick
    have hsame2 : ao = ao' := by
     rcases hsame with h1 | h1
     ·exact h1
     ·unfold AOper.quiet at h1
      split at h1
      ·exact h1
      ·subst h1; cases hact
    subst hsame2
    have hm : compM P o.op = some m := (compO_act hco).1 m hact
    have hmemw : m.mem = true → ∀ j, wrOf P N ops (ops.map (compO P N ops)) j = true → listed.getD j true = false → reach ops i ops.size j = true := by
     intro hmm j hj hun
     have hjlt : j < ops.size := by
      unfold wrOf at hj
      split at hj
      ·rename_i aj haj
       obtain ⟨o', _, ho', _⟩ := drawn_parts haj
       exact (Array.getElem?_eq_some_iff.1 ho').1
      ·simpa using hj
     have hmm' : ao.mem = true := by unfold AOper.mem; rw [hact]; exact hmm
     rcases hmem with h1 | h1
     ·rw [hmm'] at h1; cases h1
     ·have := List.all_eq_true.1 h1 j (by simpa using hjlt)
      simp only [Bool.or_eq_true, Bool.not_eq_true'] at this
      rcases this with (h2 | h2) | h2
      ·rw [hj] at h2; cases h2
      ·rw [hun] at h2; cases h2
      ·exact h2
    have hrest := fun S s a w => ih (listed.setIfInBounds i true) t ht (hcl.step hready) S s a w K
    have hfirst := fun (v : Value) (hy : YieldsIf P ops (fun w' => m.mem = true → Quiet w w') o v a) (hrec : wpQ P ops Q (wrOf P N ops (ops.map (compO P N ops))) fuel (listed.setIfInBounds i true) (a.put o.dst v) w) =>
     wpQ_first (mem := m.mem) ho (Region.noSelect_spec hns) (fun c a w h => absurd h (hQ c _ _)) fuel listed a w hcl (Region.free_spec ho hfree) (fun hmm j hj hjr => (reach_spec hcl (mem_ready.1 hready).1 _ j (hmemw hmm j hj (mem_ready.1 hjr).1)).2 hjr) hmemw hready hy hrec
    rcases wanted_of hr hg' hk with ⟨hw, hk⟩ | ⟨hw, hk⟩
    ·have hk : aval m s (fun x => awp P W t K (s.put ao.dst x)) := by
      unfold astep at hk; rw [hact] at hk; exact hk
     obtain ⟨x, u, hk2, hv, hrun⟩ := aval_sound (G := fun w' => m.mem = true → Quiet w w') hr (fun hmm w' hg => hg hmm) hm hk
     refine hfirst u (.inl ⟨hw, hrun⟩) (hrest S (s.put ao.dst x) _ w (by rw [hdst']; exact hr.put hd hv) hk2 (fun a' w' ⟨S2, s2, q2, hx2, hr2⟩ => hq _ _ ⟨S2, s2, q2, ?_, hr2⟩))
     rw [put_same] at hx2; exact hx2
    ·refine hfirst undef (.inr ⟨hw, rfl⟩) (hrest S (s.put ao.dst (.v undef)) _ w (by rw [hdst']; exact hr.putUndef hd) hk (fun a' w' ⟨S2, s2, q2, hx2, hr2⟩ => hq _ _ ⟨S2, s2, q2, ?_, hr2⟩))
     rw [put_same] at hx2; exact hx2
   ·cases h
  ·split at h
   ·rename_i hre
    cases h
    exact ⟨fun _ => hq _ _ ⟨S, s, hk, Ext.refl _ _ _, hr⟩, fun i hi => by rw [hre] at hi; cases hi⟩
   ·rename_i i hre
    split at h
    ·rename_i ao t hao ht
     cases h
     refine ⟨(fun h0 => by rw [hre] at h0; cases h0), fun j hj => ?_⟩
     rw [hre] at hj
     obtain rfl : j = i := by simpa using hj
     exact one j ao t (by rw [hre]; simp) hao ht (awp_ahead hk)
    ·cases h
   ·rename_i i j hre
    split at h
    ·rename_i ao t ao2 t2 hao ht hao2 ht2
     cases h
     refine ⟨(fun h0 => by rw [hre] at h0; cases h0), fun k hkr => ?_⟩
     have hkr' := hkr
     rw [hre] at hkr
     simp only [List.mem_cons, List.not_mem_nil, or_false] at hkr
     rcases hkr with rfl | rfl
     ·exact one k ao t hkr' hao ht (awp_ahead hk.1)
     ·exact one k ao2 t2 hkr' hao2 ht2 (awp_ahead hk.2)
    ·cases h
   ·cases h
end Go.Proofs.YtfaodacmdlnabaaGreatDoor.M
namespace Go.Proofs.YtfaodacmdlnabaaGreatDoor.M
open Go.RowKit
set_option linter.unusedVariables false
set_option linter.unusedSimpArgs false
variable {P : Program} {W : World} {S : Nat → Prop} {w : World} {N : Nat} {s : AState} {a : Act}

/-- The labels that stand side by side. -/
def labsA : ACode → List Nat
 | .seq x y => labsA x ++ labsA y
 | .label l => [l]
 | _ => []
/-- What stands behind a label. -/
def restA : ACode → Nat → Option ACode
 | .seq x y, l => match restA x l with
  | some t => some (.seq t y)
  | none => restA y l
 | .label l', l => if l' = l then some .skip else none
 | _, _ => none
def ACode.gotoes : ACode → Bool
 | .seq x y | .both x y | .cond _ x y => x.gotoes || y.gotoes
 | .block _ x | .loop x => x.gotoes
 | .goto _ => true
 | _ => false
def scopeA (ac : ACode) : Option ACode :=
 if ac.gotoes = false then some (.scope ac) else match labsA ac with
  | [l1, l2] => match restA ac l1, restA ac l2 with
   | some y, some z => some (.jumps l1 l2 ac y z)
   | _, _ => none
  | _ => none
def comp (P : Program) (N : Nat) : Code → Option ACode
 | .skip => some .skip
 | .region _ ops d => if d then compD P N ops else (ops.toList.mapM (compO P N ops)).map .ops
 | .seq x y => match comp P N x, comp P N y with
  | some x, some y => some (.seq x y)
  | _, _ => none
 | .cond c x y => match comp P N x, comp P N y with
  | some x, some y => some (.cond c x y)
  | _, _ => none
 | .block id x => (comp P N x).map (.block id)
 | .loop x => (comp P N x).map .loop
 | .exit id => some (.exit id)
 | .ret => some .ret
 | .label l => some (.label l)
 | .goto l => some (.goto l)
 | .scope x => (comp P N x).bind scopeA
 | _ => none
theorem ahead_rest (o : AOper) (t : ACode) (l : Nat) : restA (ahead o t) l = restA t l := by
 unfold ahead
 split <;> simp [restA]
theorem compT_rest (l : Nat) {ops : Array Oper} {cs : Array (Option AOper)} : ∀ (n : Nat) (listed : Array Bool) (ac : ACode), compT P N ops cs n listed = some ac → restA ac l = none := by
 intro n
 induction n with
 | zero => intro listed ac h; simp only [compT] at h; split at h <;> cases h; rfl
 | succ n ih =>
  intro listed ac h
  simp only [compT] at h
  split at h
  ·split at h
   ·rename_i o t h1 h2; cases h; rw [ahead_rest]; exact ih _ _ h2
   ·cases h
  ·split at h
   ·cases h; rfl
   ·split at h
    ·rename_i o t h1 h2; cases h; rw [ahead_rest]; exact ih _ _ h2
    ·cases h
   ·split at h
    ·cases h; rfl
    ·cases h
   ·cases h
theorem rest_code (l : Nat) : ∀ (c : Code) (ac : ACode), comp P N c = some ac → (restA ac l = none ∧ findLabel c l = none) ∨ ∃ t rest, restA ac l = some t ∧ findLabel c l = some rest ∧ comp P N rest = some t := by
 intro c
 induction c with
 | seq x y ihx ihy =>
  intro ac h
  simp only [comp] at h
  split at h
  ·rename_i ax ay hx hy
   cases h
   simp only [restA, findLabel]
   rcases ihx ax hx with ⟨e1, e2⟩ | ⟨t, rest, e1, e2, e3⟩
   ·rw [e1, e2]
    exact ihy ay hy
   ·rw [e1, e2]
    exact .inr ⟨_, _, rfl, rfl, by simp only [comp, e3, hy]⟩
  ·cases h
 | label l' =>
  intro ac h
  cases h
  simp only [restA, findLabel]
  by_cases e : l' = l
  ·rw [if_pos e, if_pos (by simpa using e)]; exact .inr ⟨_, _, rfl, rfl, rfl⟩
  ·rw [if_neg e, if_neg (by simpa using e)]; exact .inl ⟨rfl, rfl⟩
 | region id ops d =>
  intro ac h
  refine .inl ⟨?_, rfl⟩
  cases d with
  | false =>
   simp only [comp, Bool.false_eq_true, if_false, Option.map_eq_some_iff] at h
   obtain ⟨al, _, rfl⟩ := h
   rfl
  | true =>
   simp only [comp, if_true, compD] at h
   split at h
   ·exact compT_rest l _ _ _ h
   ·cases h
 | scope x ih =>
  intro ac h
  refine .inl ⟨?_, rfl⟩
  simp only [comp, Option.bind_eq_some_iff] at h
  obtain ⟨ax, _, h⟩ := h
  unfold scopeA at h
  split at h
  ·cases h; rfl
  ·split at h
   ·split at h <;> cases h; rfl
   ·cases h
 | cond c x y ihx ihy =>
  intro ac h
  simp only [comp] at h
  split at h <;> cases h
  exact .inl ⟨rfl, rfl⟩
 | block id x ih =>
  intro ac h
  simp only [comp, Option.map_eq_some_iff] at h
  obtain ⟨ax, _, rfl⟩ := h
  exact .inl ⟨rfl, rfl⟩
 | loop x ih =>
  intro ac h
  simp only [comp, Option.map_eq_some_iff] at h
  obtain ⟨ax, _, rfl⟩ := h
  exact .inl ⟨rfl, rfl⟩
 | skip => intro ac h; cases h; exact .inl ⟨rfl, rfl⟩
 | exit i => intro ac h; cases h; exact .inl ⟨rfl, rfl⟩
 | ret => intro ac h; cases h; exact .inl ⟨rfl, rfl⟩
 | goto i => intro ac h; cases h; exact .inl ⟨rfl, rfl⟩
 | _ => intro ac h; cases h
/-- As Q; by a goto to one of two labels: J. -/
def jump2 (l1 l2 : Nat) (J : Bool → Act → World → Prop) (Q : Exit → Act → World → Prop) : Exit → Act → World → Prop
 | .goto l, a, w => if l = l1 then J false a w else l = l2 ∧ J true a w
 | e, a, w => Q e a w
theorem wp_scope_two {Q : Exit → Act → World → Prop} {c r1 r2 : Code} {l1 l2 : Nat} (J : Bool → Nat → Act → World → Prop) (h1 : findLabel c l1 = some r1) (h2 : findLabel c l2 = some r2)
  (first : c.wp P (jump2 l1 l2 (fun b a w => ∃ n, J b n a w) Q) a w)
  (pass1 : ∀ n a w, J false n a w → r1.wp P (jump2 l1 l2 (fun b a w => ∃ k, k < n ∧ J b k a w) Q) a w)
  (pass2 : ∀ n a w, J true n a w → r2.wp P (jump2 l1 l2 (fun b a w => ∃ k, k < n ∧ J b k a w) Q) a w) : (Code.scope c).wp P Q a w := by
 intro b k cs
 have hg1 : gotoIn l1 (.inScope c :: k) = some (.code r1 :: .inScope c :: k) := by simp [gotoIn, h1]
 have hg2 : gotoIn l2 (.inScope c :: k) = some (.code r2 :: .inScope c :: k) := by simp [gotoIn, h2]
 have key : ∀ (n : Nat) (t : Bool) (a : Act) (w : World), J t n a w → ∃ e a' w', Q e a' w' ∧ Arrives P (lone (b.at a (.code (if t then r2 else r1) :: .inScope c :: k)) cs w) b k cs e a' w' := by
  intro n
  induction n using Nat.strongRecOn with
  | _ n ih =>
   intro t a w hJ
   have hp : (if t then r2 else r1 : Code).wp P (jump2 l1 l2 (fun b a w => ∃ k, k < n ∧ J b k a w) Q) a w := by
    cases t
    ·exact pass1 n a w hJ
    ·exact pass2 n a w hJ
   obtain ⟨e, a₁, w₁, hq, harr⟩ := hp b (.inScope c :: k) cs
   cases e with
   | normal => exact ⟨.normal, a₁, w₁, hq, Steps.trans harr (.one step_inScope)⟩
   | exit id => exact ⟨.exit id, a₁, w₁, hq, fun k' hk => harr k' (by simp [exitTo, hk])⟩
   | goto l' =>
    simp only [jump2] at hq
    split at hq
    ·rename_i e
     subst e
     obtain ⟨m, hm, hq⟩ := hq
     obtain ⟨e₂, a₂, w₂, hq₂, harr₂⟩ := ih m hm false a₁ w₁ hq
     exact ⟨e₂, a₂, w₂, hq₂, .of_steps (harr _ hg1) harr₂⟩
    ·obtain ⟨rfl, m, hm, hq⟩ := hq
     obtain ⟨e₂, a₂, w₂, hq₂, harr₂⟩ := ih m hm true a₁ w₁ hq
     exact ⟨e₂, a₂, w₂, hq₂, .of_steps (harr _ hg2) harr₂⟩
   | ret => exact ⟨_, a₁, w₁, hq, harr⟩
   | panic ch => exact ⟨_, a₁, w₁, hq, harr⟩
   | outgrown => exact ⟨_, a₁, w₁, hq, harr⟩
 obtain ⟨e, a₁, w₁, hq, harr⟩ := first b (.inScope c :: k) cs
 cases e with
 | normal => exact ⟨.normal, a₁, w₁, hq, .head step_scope (Steps.trans harr (.one step_inScope))⟩
 | exit id => exact ⟨.exit id, a₁, w₁, hq, fun k' hk => .head step_scope (harr k' (by simp [exitTo, hk]))⟩
 | goto l' =>
  simp only [jump2] at hq
  split at hq
  ·rename_i e
   subst e
   obtain ⟨m, hq⟩ := hq
   obtain ⟨e₂, a₂, w₂, hq₂, harr₂⟩ := key m false a₁ w₁ hq
   exact ⟨e₂, a₂, w₂, hq₂, .of_steps (.head step_scope (harr _ hg1)) harr₂⟩
  ·obtain ⟨rfl, m, hq⟩ := hq
   obtain ⟨e₂, a₂, w₂, hq₂, harr₂⟩ := key m true a₁ w₁ hq
   exact ⟨e₂, a₂, w₂, hq₂, .of_steps (.head step_scope (harr _ hg2)) harr₂⟩
 | ret => exact ⟨_, a₁, w₁, hq, .of_steps (.one step_scope) harr⟩
 | panic ch => exact ⟨_, a₁, w₁, hq, .of_steps (.one step_scope) harr⟩
 | outgrown => exact ⟨_, a₁, w₁, hq, .of_steps (.one step_scope) harr⟩
theorem conc_then {Q : Exit → AState → Prop} {K : AState → Prop} {Kc : Act → World → Prop} (hk : ∀ S' s' a' w', K s' → Ext S s.H w S' s'.H w' → SR W N S' s' a' w' → Kc a' w') {e : Exit} {a' : Act} {w' : World} (h : conc W N S s w (thenA K Q) e a' w') : Exit.then Kc (conc W N S s w Q) e a' w' := by
 obtain ⟨hok, S', s', q, x, r⟩ := h
 cases e with
 | normal => exact hk S' s' a' w' q x r
 | exit id => exact ⟨rfl, S', s', q, x, r⟩
 | ret => exact ⟨rfl, S', s', q, x, r⟩
 | goto id => exact ⟨rfl, S', s', q, x, r⟩
 | _ => cases hok
/-- A code's abstract form speaks for it. -/
def Sound (P : Program) (W : World) (N : Nat) (c : Code) : Prop := ∀ (ac : ACode), comp P N c = some ac → ∀ (Q : Exit → AState → Prop) (S : Nat → Prop) (s : AState) (a : Act) (w : World), SR W N S s a w → awp P W ac Q s → c.wp P (conc W N S s w Q) a w
theorem sound_seq {x y : Code} (ihx : Sound P W N x) (ihy : Sound P W N y) : Sound P W N (.seq x y) := by
 intro ac h Q S s a w hr hk
 simp only [comp] at h
 split at h
 ·rename_i ax ay hx hy
  cases h
  refine wp_seq (wp_mono (ihx ax hx _ S s a w hr hk) fun e a1 w1 h => conc_then (fun S1 s1 a1 w1 hk1 hx1 hr1 => ?_) h)
  exact wp_mono (ihy ay hy Q S1 s1 a1 w1 hr1 hk1) fun e a2 w2 h2 => conc.from hx1 h2
 ·cases h
theorem sound_skip : Sound P W N .skip := by
 intro ac h Q S s a w hr hk; cases h; exact wp_skip ⟨rfl, S, s, hk, Ext.refl _ _ _, hr⟩
theorem sound_scope {c : Code} (ih : Sound P W N c) (ihr : ∀ l rest, findLabel c l = some rest → Sound P W N rest) : Sound P W N (.scope c) := by
 intro ac h Q S s a w hr hk
 simp only [comp, Option.bind_eq_some_iff] at h
 obtain ⟨ax, hx, h⟩ := h
 unfold scopeA at h
 split at h
 ·cases h
  refine wp_scope_straight (wp_mono (ih ax hx _ S s a w hr hk) fun e a1 w1 h => ?_)
  obtain ⟨hok, S', s', q, x, r⟩ := h
  cases e with
  | normal => exact ⟨rfl, S', s', q, x, r⟩
  | exit i => exact ⟨rfl, S', s', q, x, r⟩
  | ret => exact ⟨rfl, S', s', q, x, r⟩
  | goto l => exact q.elim
  | _ => cases hok
 ·split at h
  ·rename_i l1 l2 hl
   split at h
   ·rename_i y z hy hz
    cases h
    rcases rest_code l1 c ax hx with ⟨e1, _⟩ | ⟨t1, r1, e1, f1, c1⟩
    ·rw [e1] at hy; cases hy
    rcases rest_code l2 c ax hx with ⟨e2, _⟩ | ⟨t2, r2, e2, f2, c2⟩
    ·rw [e2] at hz; cases hz
    rw [e1] at hy; cases hy
    rw [e2] at hz; cases hz
    obtain ⟨J1, J2, k0, k1, k2⟩ := hk
    refine wp_scope_two (fun b n a' w' => ∃ S1 s1, (if b = true then J2 n s1 else J1 n s1) ∧ Ext S s.H w S1 s1.H w' ∧ SR W N S1 s1 a' w') f1 f2 ?_ ?_ ?_
    ·refine wp_mono (ih ax hx _ S s a w hr k0) fun e a1 w1 h => ?_
     obtain ⟨hok, S', s', q, x, r⟩ := h
     cases e with
     | normal => exact ⟨rfl, S', s', q, x, r⟩
     | exit i => exact ⟨rfl, S', s', q, x, r⟩
     | ret => exact ⟨rfl, S', s', q, x, r⟩
     | goto l =>
      simp only [jumpA] at q
      simp only [jump2]
      split at q
      ·rename_i e; rw [if_pos e]
       obtain ⟨k, s3, hw, hJ⟩ := q
       obtain ⟨S3, x3, r3⟩ := Weak.sound r hw
       exact ⟨k, S3, s3, hJ, x.trans x3, r3⟩
      ·rename_i e; rw [if_neg e]
       obtain ⟨e2, k, s3, hw, hJ⟩ := q
       obtain ⟨S3, x3, r3⟩ := Weak.sound r hw
       exact ⟨e2, k, S3, s3, hJ, x.trans x3, r3⟩
     | _ => cases hok
    ·rintro n a1 w1 ⟨S1, s1, hJ, x1, hr1⟩
     have hJ : J1 n s1 := hJ
     refine wp_mono (ihr l1 r1 f1 _ c1 _ S1 s1 a1 w1 hr1 (k1 n s1 hJ)) fun e a2 w2 h => ?_
     obtain ⟨hok, S', s', q, x, r⟩ := conc.from x1 h
     cases e with
     | normal => exact ⟨rfl, S', s', q, x, r⟩
     | exit i => exact ⟨rfl, S', s', q, x, r⟩
     | ret => exact ⟨rfl, S', s', q, x, r⟩
     | goto l =>
      simp only [jumpA] at q
      simp only [jump2]
      split at q
      ·rename_i e; rw [if_pos e]
       obtain ⟨k, s3, hlt, hw, hJ⟩ := q
       obtain ⟨S3, x3, r3⟩ := Weak.sound r hw
       exact ⟨k, hlt, S3, s3, hJ, x.trans x3, r3⟩
      ·rename_i e; rw [if_neg e]
       obtain ⟨e2, k, s3, hlt, hw, hJ⟩ := q
       obtain ⟨S3, x3, r3⟩ := Weak.sound r hw
       exact ⟨e2, k, hlt, S3, s3, hJ, x.trans x3, r3⟩
     | _ => cases hok
    ·rintro n a1 w1 ⟨S1, s1, hJ, x1, hr1⟩
     have hJ : J2 n s1 := hJ
     refine wp_mono (ihr l2 r2 f2 _ c2 _ S1 s1 a1 w1 hr1 (k2 n s1 hJ)) fun e a2 w2 h => ?_
     obtain ⟨hok, S', s', q, x, r⟩ := conc.from x1 h
     cases e with
     | normal => exact ⟨rfl, S', s', q, x, r⟩
     | exit i => exact ⟨rfl, S', s', q, x, r⟩
     | ret => exact ⟨rfl, S', s', q, x, r⟩
     | goto l =>
      simp only [jumpA] at q
      simp only [jump2]
      split at q
      ·rename_i e; rw [if_pos e]
       obtain ⟨k, s3, hlt, hw, hJ⟩ := q
       obtain ⟨S3, x3, r3⟩ := Weak.sound r hw
       exact ⟨k, hlt, S3, s3, hJ, x.trans x3, r3⟩
      ·rename_i e; rw [if_neg e]
       obtain ⟨e2, k, s3, hlt, hw, hJ⟩ := q
       obtain ⟨S3, x3, r3⟩ := Weak.sound r hw
       exact ⟨e2, k, hlt, S3, s3, hJ, x.trans x3, r3⟩
     | _ => cases hok
   ·cases h
  ·cases h
theorem awp_sound2 (hm : P.follows .mixedOrders = true) : ∀ (c : Code), Sound P W N c ∧ ∀ l rest, findLabel c l = some rest → Sound P W N rest := by
 intro c
 induction c with
 | skip => exact ⟨sound_skip, fun l rest h => by cases h⟩
 | label l =>
  refine ⟨fun ac h Q S s a w hr hk => by cases h; exact wp_label ⟨rfl, S, s, hk, Ext.refl _ _ _, hr⟩, fun l2 rest h => ?_⟩
  simp only [findLabel] at h
  split at h
  ·cases h; exact sound_skip
  ·cases h
 | goto l => exact ⟨fun ac h Q S s a w hr hk => by cases h; exact wp_goto ⟨rfl, S, s, hk, Ext.refl _ _ _, hr⟩, fun l rest h => by cases h⟩
 | exit id => exact ⟨fun ac h Q S s a w hr hk => by cases h; exact wp_exit ⟨rfl, S, s, hk, Ext.refl _ _ _, hr⟩, fun l rest h => by cases h⟩
 | ret => exact ⟨fun ac h Q S s a w hr hk => by cases h; exact wp_ret ⟨rfl, S, s, hk, Ext.refl _ _ _, hr⟩, fun l rest h => by cases h⟩
 | region id ops d =>
  refine ⟨fun ac h Q S s a w hr hk => ?_, fun l rest h => by cases h⟩
  cases d with
  | false =>
   simp only [comp, Bool.false_eq_true, if_false, Option.map_eq_some_iff] at h
   obtain ⟨al, hal, rfl⟩ := h
   exact region_plain hal hr hk
  | true =>
   simp only [comp, if_true] at h
   have hal := h
   unfold compD at hal
   split at hal
   ·rename_i hns
    refine wp_region_any hm (wpAny_of_Q (Wr := wrOf P N ops (ops.map (compO P N ops))) _ _ _ _ ?_)
    have hr2 : SR W N S s a { w with drawn := w.drawn + 1 } := by
     refine ⟨hr.defers, hr.size, fun k => VR.keep (w := w) (w' := { w with drawn := w.drawn + 1 }) (fun b hb => ⟨hb, rfl⟩) (fun _ _ h => h) (hr.tm k), ⟨⟨hr.wr.old.os, hr.wr.old.tape, hr.wr.old.output, hr.wr.old.size, hr.wr.old.block⟩, hr.wr.new, hr.wr.lt, hr.wr.apart, fun b o h => OR.keep (w := w) (w' := { w with drawn := w.drawn + 1 }) (fun b hb => ⟨hb, rfl⟩) (fun _ _ h => h) rfl (hr.wr.objs b o h)⟩⟩
    have hx : Ext S s.H w S s.H { w with drawn := w.drawn + 1 } := ⟨Nat.le_refl _, fun _ _ _ => rfl, fun _ _ h => h, fun _ h => h, fun _ h => .inl h, fun _ h => .inl h⟩
    have hcl : Closed ops (Array.replicate ops.size false) := by
     intro j o hj hl
     have : j < ops.size := (Array.getElem?_eq_some_iff.1 hj).1
     simp [this] at hl
    exact draw_code hns (fun c a w h => by cases h.1) _ _ _ hal hcl S s a _ Q hr2 hk (fun a' w' ht => conc.from hx ht.conc)
   ·cases hal
 | seq x y ihx ihy =>
  refine ⟨sound_seq ihx.1 ihy.1, fun l rest h => ?_⟩
  simp only [findLabel] at h
  split at h
  ·rename_i rx e
   cases h
   exact sound_seq (ihx.2 l _ e) ihy.1
  ·exact ihy.2 l rest h
 | cond c x y ihx ihy =>
  refine ⟨fun ac h Q S s a w hr hk => ?_, fun l rest h => by cases h⟩
  simp only [comp] at h
  split at h
  ·rename_i ax ay hx hy
   cases h
   simp only [awp] at hk
   split at hk
   ·rename_i t e
    have hv := hr.ev c
    rw [e] at hv
    have he : a.eval c = .bool t := by generalize a.eval c = u at hv; cases hv; rfl
    cases t
    ·exact wp_cond he (by simpa using ihy.1 ay hy Q S s a w hr (hk.2 rfl))
    ·exact wp_cond he (by simpa using ihx.1 ax hx Q S s a w hr (hk.1 rfl))
   ·exact hk.elim
  ·cases h
 | block id x ih =>
  refine ⟨fun ac h Q S s a w hr hk => ?_, fun l rest h => by cases h⟩
  simp only [comp, Option.map_eq_some_iff] at h
  obtain ⟨ax, hx, rfl⟩ := h
  refine wp_block (wp_mono (ih.1 ax hx _ S s a w hr hk) fun e a1 w1 h => ?_)
  obtain ⟨hok, S', s', q, x, r⟩ := h
  cases e with
  | normal => exact ⟨rfl, S', s', q, x, r⟩
  | exit i =>
   simp only [blockA] at q
   simp only [Exit.inBlock]
   split
   ·rename_i e; rw [if_pos e] at q; exact ⟨rfl, S', s', q, x, r⟩
   ·rename_i e; rw [if_neg e] at q; exact ⟨rfl, S', s', q, x, r⟩
  | ret => exact ⟨rfl, S', s', q, x, r⟩
  | goto l => exact ⟨rfl, S', s', q, x, r⟩
  | _ => cases hok
 | loop x ih =>
  refine ⟨fun ac h Q S s a w hr hk => ?_, fun l rest h => by cases h⟩
  simp only [comp, Option.map_eq_some_iff] at h
  obtain ⟨ax, hx, rfl⟩ := h
  obtain ⟨I, ⟨n, s0, hwk, hI⟩, hround⟩ := hk
  obtain ⟨S0, hx0, hr0⟩ := Weak.sound hr hwk
  refine wp_loop_ghost (fun n a' w' => ∃ S1 s1, I n s1 ∧ Ext S s.H w S1 s1.H w' ∧ SR W N S1 s1 a' w') n ⟨S0, s0, hI, hx0, hr0⟩ ?_
  rintro n a1 w1 ⟨S1, s1, hI1, hx1, hr1⟩
  refine wp_mono (ih.1 ax hx _ S1 s1 a1 w1 hr1 (hround n s1 hI1)) fun e a2 w2 h => ?_
  have h2 := conc.from hx1 h
  refine conc_then (fun S2 s2 a2 w2 hk2 hx2 hr2 => ?_) h2
  obtain ⟨k, s3, hlt, hwk3, hI3⟩ := hk2
  obtain ⟨S3, hx3, hr3⟩ := Weak.sound hr2 hwk3
  exact ⟨k, hlt, S3, s3, hI3, hx2.trans hx3, hr3⟩
 | scope x ih => exact ⟨sound_scope ih.1 ih.2, fun l rest h => by cases h⟩
 | _ => exact ⟨(by intro ac h; cases h), fun l rest h => by cases h⟩
theorem awp_sound (hm : P.follows .mixedOrders = true) (c : Code) : Sound P W N c := (awp_sound2 hm c).1


/-! ### Functions -/
structure AFn where
 np : Nat
 N : Nat
 res : List Nat
 body : ACode
 cells : List (Nat × Nat × Bool × Nat)
/-- Where results lie: in temporaries; what lies in memory is read into new ones, from M on. -/
def resOf (P : Program) (M : Nat) : Nat → List ResultVar → Option (List Nat × List (Nat × Nat × Bool × Nat))
 | _, [] => some ([], [])
 | i, .tmp t :: r => if t < M then (resOf P M (i + 1) r).map fun x => (t :: x.1, x.2) else none
 | i, .cell a t :: r => match aggOf P t, szOf P t with
  | some ag, some n => if a < M then (resOf P M (i + 1) r).map fun x => ((M + i) :: x.1, (M + i, a, ag, n) :: x.2) else none
  | _, _ => none
def compF (P : Program) (f : FuncId) : Option AFn :=
 match P.funcs[f]? with
 | some fn => match fn.body with
  | some c => match resOf P (max fn.ntmps fn.params.size) 0 fn.results.toList with
   | some rs => (comp P (max fn.ntmps fn.params.size) c).map fun b => ⟨fn.params.size, max fn.ntmps fn.params.size, rs.1, b, rs.2⟩
   | none => none
  | none => none
 | none => none
def retOf (tm : List (Nat × AVal)) : List Nat → AVal
 | [t] => tget tm t
 | ts => .tup (ts.map (tget tm))
def retVal (tmps : Array Value) : List Nat → Value
 | [t] => tmps.getD t undef
 | ts => .tuple (ts.map fun t => tmps.getD t undef).toArray
/-- What is handed back. -/
def aret (res : List Nat) (K : AVal → AHeap → Prop) (e : Exit) (s : AState) : Prop := (e = .normal ∨ e = .ret) ∧ ∃ H' r, Sub H' s.H ∧ FZ s.H H' (retOf s.tm res) r ∧ K r H'
def retVals : List Value → Value
 | [v] => v
 | vs => .tuple vs.toArray
/-- The results that lie in memory are read; then what is handed back. -/
def aretC : List (Nat × Nat × Bool × Nat) → List Nat → (AVal → AHeap → Prop) → Exit → AState → Prop
 | [], res, K, e, s => aret res K e s
 | c :: cs, res, K, e, s => ald s.H c.2.2.1 c.2.2.2 (tget s.tm c.2.1) fun v => aretC cs res K e ⟨(c.1, v) :: s.tm, s.H⟩
theorem ald_ptr {S : Nat → Prop} {w : World} {H : AHeap} {ag : Bool} {n : Nat} {x : AVal} {u : Value} {K : AVal → Prop} (h : ald H ag n x K) (hv : VR S w x u) : ∃ a, u = .pointer (some a) := by
 unfold ald at h
 split at h
 ·cases hv; exact ⟨_, rfl⟩
 ·cases hv; exact ⟨_, rfl⟩
 ·cases hv; exact ⟨_, rfl⟩
 ·exact h.elim
def resOne (tmps : Array Value) : ResultVar → Sem Value
 | .tmp t => pure (tmps.getD t undef)
 | .cell a t => do loadVar t (← asAddr (tmps.getD a undef))
theorem resC {W : World} {S : Nat → Prop} {w : World} {H : AHeap} {tmps : Array Value} {M : Nat} {res : List Nat} {K : AVal → AHeap → Prop} {e : Exit} (hw : WR W S H w) :
  ∀ (l : List ResultVar) (i : Nat) (rs : List Nat) (cells : List (Nat × Nat × Bool × Nat)), resOf P M i l = some (rs, cells) → ∀ (tm : List (Nat × AVal)), (∀ k, k < M → VR S w (tget tm k) (tmps.getD k undef)) → aretC cells res K e ⟨tm, H⟩ →
   ∃ (tm2 : List (Nat × AVal)) (us : List Value), aret res K e ⟨tm2, H⟩ ∧ (l.mapM (resOne tmps)).run P w = .ok us w ∧ us.length = rs.length ∧ (∀ j (h : j < rs.length) (h' : j < us.length), VR S w (tget tm2 rs[j]) us[j]) ∧ (∀ k, k < M + i → tget tm2 k = tget tm k)
 | [], i, rs, cells, hc, tm, htm, h => by
  simp only [resOf, Option.some.injEq, Prod.mk.injEq] at hc
  obtain ⟨rfl, rfl⟩ := hc
  exact ⟨tm, [], h, rfl, rfl, fun j h => by simp at h, fun _ _ => rfl⟩
 | .tmp t :: l, i, rs, cells, hc, tm, htm, h => by
  simp only [resOf] at hc
  split at hc
  ·rename_i htM
   rw [Option.map_eq_some_iff] at hc
   obtain ⟨⟨rs', cells'⟩, hc', he⟩ := hc
   simp only [Prod.mk.injEq] at he
   obtain ⟨rfl, rfl⟩ := he
   obtain ⟨tm2, us, h1, h2, h3, h4, h5⟩ := resC hw l (i + 1) rs' cells' hc' tm htm h
   refine ⟨tm2, tmps.getD t undef :: us, h1, ?_, by simp [h3], fun j hj hj' => ?_, fun k hk => h5 k (by omega)⟩
   ·simp only [List.mapM_cons, resOne, Sem.run_bind, Sem.run_pure, Result.andThen_ok, h2]
   ·cases j with
    | zero =>
     simp only [List.getElem_cons_zero]
     rw [h5 t (Nat.lt_of_lt_of_le htM (by omega))]
     exact htm t htM
    | succ j => exact h4 j (by simpa using hj) (by simpa using hj')
  ·cases hc
 | .cell a t :: l, i, rs, cells, hc, tm, htm, h => by
  simp only [resOf] at hc
  split at hc
  ·rename_i ag n hag hn
   split at hc
   ·rename_i haM
    rw [Option.map_eq_some_iff] at hc
    obtain ⟨⟨rs', cells'⟩, hc', he⟩ := hc
    simp only [Prod.mk.injEq] at he
    obtain ⟨rfl, rfl⟩ := he
    simp only [aretC] at h
    have hva := htm a haM
    obtain ⟨ad, had⟩ := ald_ptr h hva
    obtain ⟨v, u, hk, hv, hg⟩ := ald_sound (G := fun w' => w' = w) (fun w' e => by subst e; exact Quiet.refl _) hw hag hn h hva
    have htm' : ∀ k, k < M → VR S w (tget ((M + i, v) :: tm) k) (tmps.getD k undef) := fun k hk => by
     rw [tget, if_neg (by omega)]; exact htm k hk
    obtain ⟨tm2, us, h1, h2, h3, h4, h5⟩ := resC hw l (i + 1) rs' cells' hc' _ htm' hk
    refine ⟨tm2, u :: us, h1, ?_, by simp [h3], fun j hj hj' => ?_, fun k hk => ?_⟩
    ·have hrun := hg w rfl
     rw [had] at hrun
     have hone : (resOne tmps (.cell a t)).run P w = .ok u w := by
      simp only [resOne, had]
      simpa [Instr.loadAt, Instr.sureAddr, asAddr, Sem.run_bind] using hrun
     simp only [List.mapM_cons, Sem.run_bind, hone, Sem.run_pure, Result.andThen_ok, h2]
    ·cases j with
     | zero =>
      simp only [List.getElem_cons_zero]
      rw [h5 (M + i) (by omega), tget, if_pos rfl]
      exact hv
     | succ j => exact h4 j (by simpa using hj) (by simpa using hj')
    ·rw [h5 k (by omega), tget, if_neg (by omega)]
   ·cases hc
  ·cases hc
theorem fn_sound (hm : P.follows .mixedOrders = true) {f : FuncId} {af : AFn} (hc : compF P f = some af) {args : List AVal} (hl : af.np ≤ args.length) {H : AHeap} {K : AVal → AHeap → Prop}
  (h : awp P W af.body (aretC af.cells af.res K) ⟨args.zipIdx.map (fun p => (p.2, p.1)), H⟩) : ACalls P W f args H K := by
 unfold compF at hc
 split at hc
 ·rename_i fn hfn
  split at hc
  ·rename_i c hb
   split at hc
   ·rename_i rs hrs
    simp only [Option.map_eq_some_iff] at hc
    obtain ⟨b, hcb, rfl⟩ := hc
    simp only at hl h
    intro S w us hw hv
    refine calls_of_wp hfn hb ?_
    have hsz : fn.params.size ≤ us.size := by rw [hv.1]; exact hl
    have htm : ∀ k, tget (args.zipIdx.map (fun p => (p.2, p.1))) k = args.getD k .any := by
     have key : ∀ (l : List AVal) (j k : Nat), tget ((l.zipIdx j).map (fun p => (p.2, p.1))) k = if j ≤ k then l.getD (k - j) .any else .any := by
      intro l
      induction l with
      | nil => intro j k; simp [tget]
      | cons x l ih =>
       intro j k
       simp only [List.zipIdx_cons, List.map_cons, tget]
       by_cases e : j = k
       ·subst e; simp
       ·rw [if_neg e, ih (j + 1) k]
        by_cases e2 : j ≤ k
        ·rw [if_pos (by omega), if_pos e2]
         obtain ⟨m, rfl⟩ : ∃ m, k = j + 1 + m := ⟨k - (j + 1), by omega⟩
         simp [show j + 1 + m - (j + 1) = m by omega, show j + 1 + m - j = m + 1 by omega]
        ·rw [if_neg (by omega), if_neg e2]
     intro k
     simpa using key args 0 k
    have hr : SR W (max fn.ntmps fn.params.size) S ⟨args.zipIdx.map (fun p => (p.2, p.1)), H⟩ { tmps := us ++ Array.replicate (fn.ntmps - us.size) undef, defers := [] } w := by
     refine ⟨rfl, by simp; omega, fun k => ?_, hw⟩
     rw [htm]
     by_cases hk : k < args.length
     ·have := hv.2 k hk (by rw [hv.1]; exact hk)
      simpa [hk, show k < us.size by rw [hv.1]; exact hk, Array.getElem?_append_left] using this
     ·have : args.getD k .any = .any := by simp [hk]
      rw [this]; exact .any _
    refine wp_mono (awp_sound hm c b hcb _ S _ _ w hr h) fun e a' w' hcc => ?_
    obtain ⟨hok, S', s', hC, hx, hr'⟩ := hcc
    obtain ⟨tm2, us, ⟨he, H', r, hs, hfz, hk⟩, hus, hlen, hvs, -⟩ := resC hr'.wr fn.results.toList 0 rs.1 rs.2 hrs s'.tm (fun k _ => hr'.tm k) hC
    have hres : (results fn a'.tmps).run P w' = .ok (retVals us) w' := by
     have hmap : ∀ g : ResultVar → Sem Value, (∀ r, g r = resOne a'.tmps r) → ∀ l : List ResultVar, l.mapM g = l.mapM (resOne a'.tmps) := fun g h l => by rw [funext h]
     unfold results
     rw [Sem.run_bind, Array.mapM_eq_mapM_toList, Sem.run_map, hmap, hus]
     ·cases us with
      | nil => rfl
      | cons t ts => cases ts <;> rfl
     ·intro r; cases r <;> rfl
    have hval : VR S' w' (retOf tm2 rs.1) (retVals us) := by
     have htup : ∀ (ts : List Nat) (us : List Value), us.length = ts.length → (∀ j (h : j < ts.length) (h' : j < us.length), VR S' w' (tget tm2 ts[j]) us[j]) → VR S' w' (.tup (ts.map (tget tm2))) (.tuple us.toArray) := fun ts us hl hv =>
      .tup (fun j => us.getD j undef) (by simp [hl]) (fun j hj => by simp at hj; simp [hj]) (fun j hj => by simp at hj ⊢; have := hv j hj (by omega); simpa [show j < us.length by omega] using this)
     generalize rs.1 = R at hlen hvs
     match R, us, hlen, hvs with
     | [], [], hl, hv => exact htup [] [] rfl hv
     | [t], [u], hl, hv => exact hv 0 (by simp) (by simp)
     | t :: t2 :: ts, u :: u2 :: us, hl, hv => exact htup (t :: t2 :: ts) (u :: u2 :: us) hl hv
    obtain ⟨hx2, hw2⟩ := less_ext hr'.wr hs
    have hfin := hfz.sound hr'.wr hs hval
    have hpost : ∃ r H' S' v, K r H' ∧ (Ending.returned (retVals us)) = .returned v ∧ Ext S H w S' H' w' ∧ WR W S' H' w' ∧ VR S' w' r v :=
     ⟨r, H', _, _, hk, rfl, hx.trans hx2, hw2, hfin⟩
    rcases he with rfl | rfl
    ·exact ⟨hr'.defers, _, hres, hpost⟩
    ·exact ⟨hr'.defers, _, hres, hpost⟩
   ·cases hc
  ·cases hc
 ·cases hc
end Go.Proofs.YtfaodacmdlnabaaGreatDoor.M
