/-
  Regions: their operations in the order that is printed; a region that draws its order, in one order for all.
-/
import Derived.Test.YtidicfdcjoggpaaMG5
namespace Go.Proofs.Ytidicfdcjoggpaa.M
open Go.RowKit
set_option linter.unusedVariables false
set_option linter.unusedSimpArgs false
variable {P : Program} {W : World} {S : Nat → Prop} {w : World} {N : Nat} {s : AState} {a : Act}

inductive Act1 where
  | q (m : AO)
  | e (m : AE)
structure AOper where
  dst : Option Nat
  guard : Option (Nat × Bool)
  act : Act1
def astep (P : Program) (W : World) (o : AOper) (s : AState) (K : AState → Prop) : Prop :=
  match o.act with
  | .q m => aval m s fun x => K (s.put o.dst x)
  | .e m => aeff P W m o.dst s K
/-- Under a guard. -/
def guarded (g : Option (Nat × Bool)) (s : AState) (A B : Prop) : Prop :=
  match g with
  | none => A
  | some (t, want) => match tget s.tm t with
    | .v (.bool b) => (b = want → A) ∧ (b = !want → B)
    | .v (.tuple _) => B
    | _ => False
def aops (P : Program) (W : World) : List AOper → AState → (AState → Prop) → Prop
  | [], s, K => K s
  | o :: r, s, K => guarded o.guard s (astep P W o s fun s' => aops P W r s' K) (aops P W r (s.put o.dst (.v undef)) K)
def compO (P : Program) (N : Nat) (ops : Array Oper) (o : Oper) : Option AOper :=
  if dstOk N o.dst then
    match (match o.guard with
      | none => some none
      | some (j, want) => match (ops[j]?).bind (·.dst) with
        | some t => if t < N then some (some (t, want)) else none
        | none => none) with
    | some g => match compM P o.op with
      | some m => some ⟨o.dst, g, .q m⟩
      | none => match compE P o.op with
        | some m => some ⟨o.dst, g, .e m⟩
        | none => none
    | none => none
  else none
theorem wanted_of {ops : Array Oper} (hr : SR W N S s a w) {o : Oper} {g : Option (Nat × Bool)} {A B : Prop}
    (hg : (match o.guard with
      | none => some none
      | some (j, want) => match (ops[j]?).bind (·.dst) with
        | some t => if t < N then some (some (t, want)) else none
        | none => none) = some g) (h : guarded g s A B) : (Region.wanted o (yielded ops a.tmps) = true ∧ A) ∨ (Region.wanted o (yielded ops a.tmps) = false ∧ B) := by
  cases hgd : o.guard with
  | none =>
    rw [hgd] at hg
    cases hg
    exact .inl ⟨by simp [Region.wanted, hgd], h⟩
  | some jw =>
    obtain ⟨j, want⟩ := jw
    rw [hgd] at hg
    dsimp only at hg
    split at hg
    · rename_i t ht
      split at hg
      · rename_i htN
        cases hg
        have hv := hr.tm t
        have hget : a.tmps[t]? = some (a.tmps.getD t undef) := by simp [show t < a.tmps.size by rw [hr.size]; exact htN]
        simp only [guarded] at h
        have hy : yielded ops a.tmps j = match a.tmps.getD t undef with | .bool b => some b | _ => none := by
          unfold yielded
          rw [ht]
          simp only [Option.bind_some, hget]
          cases a.tmps.getD t undef <;> rfl
        generalize a.tmps.getD t undef = u at hv hy
        split at h
        · rename_i b e
          rw [e] at hv
          cases hv
          simp only [Region.wanted, hgd, hy]
          by_cases hb : b = want
          · exact .inl ⟨by simp [hb], h.1 hb⟩
          · exact .inr ⟨by simp [hb], h.2 (by cases b <;> cases want <;> simp_all)⟩
        · rename_i vs e
          rw [e] at hv
          cases hv
          simp only [Region.wanted, hgd, hy]
          exact .inr ⟨by simp, h⟩
        · exact h.elim
      · cases hg
    · cases hg
/-- What is known at an exit. -/
def Exit.ok : Exit → Bool
  | .normal | .exit _ | .ret => true
  | _ => false
def conc (W : World) (N : Nat) (S : Nat → Prop) (s : AState) (w : World) (Q : Exit → AState → Prop) (e : Exit) (a' : Act) (w' : World) : Prop := Exit.ok e = true ∧ ∃ S' s', Q e s' ∧ Ext S s.H w S' s'.H w' ∧ SR W N S' s' a' w'
theorem conc.from {S1 : Nat → Prop} {s1 : AState} {w1 : World} {Q : Exit → AState → Prop} (hx : Ext S s.H w S1 s1.H w1) {e : Exit} {a' : Act} {w' : World} (h : conc W N S1 s1 w1 Q e a' w') : conc W N S s w Q e a' w' :=
  ⟨h.1, let ⟨S', s', q, x, r⟩ := h.2; ⟨S', s', q, hx.trans x, r⟩⟩
theorem conc.mono {Q Q' : Exit → AState → Prop} {e : Exit} {a' : Act} {w' : World} (h : conc W N S s w Q e a' w') (hq : ∀ s', Q e s' → Q' e s') : conc W N S s w Q' e a' w' :=
  ⟨h.1, let ⟨S', s', q, x, r⟩ := h.2; ⟨S', s', hq _ q, x, r⟩⟩
theorem Then.conc {Q : Exit → AState → Prop} {a' : Act} {w' : World} (h : Then W N S s w (Q .normal) a' w') : conc W N S s w Q .normal a' w' := ⟨rfl, h⟩
/-- One operation, as it is compiled. -/
theorem astep_sound {Q : Exit → Act → World → Prop} (hr : SR W N S s a w) {ops : Array Oper} {o : Oper} {ao : AOper} (hc : compO P N ops o = some ao) {K : AState → Prop} (h : astep P W ao s K) : ao.dst = o.dst ∧ o.wp P a w (Then W N S s w K) Q := by
  unfold compO at hc
  split at hc
  · rename_i hd
    split at hc
    · rename_i g hg
      split at hc
      · rename_i m hm
        cases hc
        refine ⟨rfl, ?_⟩
        have h : aval m s (fun x => K (s.put o.dst x)) := h
        obtain ⟨x, u, hk, hv, hrun⟩ := aval_sound (G := fun w' => w' = w) hr (fun _ w' e => by subst e; exact Quiet.refl _) hm h
        exact wp_value (hrun w rfl) ⟨S, _, hk, by rw [show (s.put o.dst x).H = s.H by cases o.dst <;> rfl]; exact Ext.refl _ _ _, hr.put hd hv⟩
      · split at hc
        · rename_i m hm
          cases hc
          exact ⟨rfl, aeff_sound hr hd hm h⟩
        · cases hc
    · cases hc
  · cases hc
theorem compO_parts {ops : Array Oper} {o : Oper} {ao : AOper} (hc : compO P N ops o = some ao) : dstOk N o.dst = true ∧ ao.dst = o.dst ∧ (match o.guard with
      | none => some none
      | some (j, want) => match (ops[j]?).bind (·.dst) with
        | some t => if t < N then some (some (t, want)) else none
        | none => none) = some ao.guard := by
  unfold compO at hc
  split at hc
  · rename_i hd
    split at hc
    · rename_i g hg
      split at hc
      · cases hc; exact ⟨hd, rfl, hg⟩
      · split at hc
        · cases hc; exact ⟨hd, rfl, hg⟩
        · cases hc
    · cases hc
  · cases hc
theorem SR.putUndef (hr : SR W N S s a w) {d : Option Nat} (hd : dstOk N d = true) : SR W N S (s.put d (.v undef)) (a.put d undef) w := hr.put hd (.v undef)
theorem put_same (s : AState) (d : Option Nat) (x : AVal) : (s.put d x).H = s.H := by cases d <;> rfl
/-- The operations of a region whose order is the text's. -/
theorem aops_list {ops : Array Oper} {Q : Exit → Act → World → Prop} : ∀ (l : List Oper) (al : List AOper), l.mapM (compO P N ops) = some al → ∀ (S : Nat → Prop) (s : AState) (a : Act) (w : World) (K : AState → Prop), SR W N S s a w → aops P W al s K → (∀ a' w', Then W N S s w K a' w' → Q .normal a' w') → wpList P ops Q l a w
  | [], al, h, S, s, a, w, K, hr, hk, hq => by
    simp at h; subst h
    exact wpList_nil (hq _ _ ⟨S, s, hk, Ext.refl _ _ _, hr⟩)
  | o :: l, al, h, S, s, a, w, K, hr, hk, hq => by
    simp only [List.mapM_cons, Option.bind_eq_bind, Option.bind_eq_some_iff, Option.pure_def, Option.some.injEq] at h
    obtain ⟨ao, hao, al', hal, rfl⟩ := h
    obtain ⟨hd, hdst, hg⟩ := compO_parts hao
    simp only [aops] at hk
    refine wpList_step fun K' hK' => ?_
    rcases wanted_of hr hg hk with ⟨hw, hk⟩ | ⟨hw, hk⟩
    · rw [if_pos hw]
      have h1 := (astep_sound (Q := Q) hr hao hk).2
      refine Oper.wp_mono (fun a1 w1 ⟨S1, s1, hk1, hx1, hr1⟩ => hK' _ _ ?_) h1
      exact aops_list l al' hal S1 s1 a1 w1 K hr1 hk1 (fun a' w' ⟨S2, s2, hk2, hx2, hr2⟩ => hq _ _ ⟨S2, s2, hk2, hx1.trans hx2, hr2⟩)
    · rw [if_neg (by rw [hw]; simp)]
      rw [hdst] at hk
      refine hK' _ _ (aops_list l al' hal S _ _ w K (hr.putUndef hd) hk (fun a' w' ⟨S2, s2, hk2, hx2, hr2⟩ => hq _ _ ⟨S2, s2, hk2, ?_, hr2⟩))
      rw [put_same] at hx2; exact hx2
theorem region_plain {id : Nat} {ops : Array Oper} {al : List AOper} (hc : ops.toList.mapM (compO P N ops) = some al) {Q : Exit → AState → Prop} (hr : SR W N S s a w) (h : aops P W al s (Q .normal)) : (Code.region id ops false).wp P (conc W N S s w Q) a w :=
  wp_region_list (aops_list _ _ hc S s a w _ hr h (fun _ _ ht => ht.conc))
end Go.Proofs.Ytidicfdcjoggpaa.M
