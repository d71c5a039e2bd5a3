/-
  A region that draws its order: one order stands for all, if reads come ahead of all that writes, and of what makes memory one comes at a time.
-/
import Derived.Test.YtidicfdcjoggpaaMH
namespace Go.Proofs.Ytidicfdcjoggpaa.M
open Go.RowKit
set_option linter.unusedVariables false
set_option linter.unusedSimpArgs false
section
variable {P : Program} {ops : Array Oper} {Q : Exit → Act → World → Prop} {Wr : Nat → Bool}
def wpQ (P : Program) (ops : Array Oper) (Q : Exit → Act → World → Prop) (Wr : Nat → Bool) : Nat → Array Bool → Act → World → Prop
  | 0, listed, a, w => Region.ready .any ops listed = [] ∧ Q .normal a w
  | fuel + 1, listed, a, w =>
    (Region.ready .any ops listed = [] → Q .normal a w) ∧
    ∀ i ∈ Region.ready .any ops listed, wpOp P ops Q i (fun a' w' => (Wr i = false → Quiet w w') ∧ wpQ P ops Q Wr fuel (listed.setIfInBounds i true) a' w') a w
theorem wpAny_of_Q : ∀ (fuel : Nat) (listed : Array Bool) (a : Act) (w : World), wpQ P ops Q Wr fuel listed a w → wpAny P .any ops Q fuel listed a w
  | 0, _, _, _, h => h
  | fuel + 1, _, _, _, h => ⟨h.1, fun i hi => wpOp_mono (fun a' w' h' => wpAny_of_Q fuel _ a' w' h'.2) (h.2 i hi)⟩
def Closed (ops : Array Oper) (listed : Array Bool) : Prop :=
  ∀ (j : Nat) (o : Oper), ops[j]? = some o → listed.getD j true = true → ∀ e ∈ o.after, Region.binds .any e = true → listed.getD e.on true = true
theorem getD_true_of {l : Array Bool} {k : Nat} (h : l.getD k false = true) : l.getD k true = true := by
  rcases Nat.lt_or_ge k l.size with h' | h'
  · simp [h'] at h ⊢; exact h
  · simp [Array.getElem?_eq_none h'] at h
theorem Closed.step {listed : Array Bool} {i : Nat} (h : Closed ops listed) (hr : i ∈ Region.ready .any ops listed) : Closed ops (listed.setIfInBounds i true) := by
  intro j o hj hl e he hb
  obtain ⟨h0, oi, hoi, hall⟩ := mem_ready.1 hr
  by_cases hij : i = j
  · subst hij
    rw [hoi] at hj
    cases hj
    exact getD_true_of (getD_set_true (hall e he hb))
  · rw [getD_set_ne true hij] at hl
    have h1 := h j o hj hl e he hb
    by_cases hie : i = e.on
    · rw [← hie]
      rcases Nat.lt_or_ge i listed.size with h' | h'
      · simp [h']
      · simp
    · rw [getD_set_ne true hie]; exact h1
/-- j waits for i. -/
def reach (ops : Array Oper) (i : Nat) : Nat → Nat → Bool
  | 0, _ => false
  | n + 1, j => match ops[j]? with
    | some o => o.after.toList.any fun e => Region.binds .any e && (e.on == i || reach ops i n e.on)
    | none => false
theorem reach_spec {i : Nat} {listed : Array Bool} (hc : Closed ops listed) (hi : listed.getD i true = false) : ∀ (n j : Nat), reach ops i n j = true → listed.getD j true = false ∧ j ∉ Region.ready .any ops listed
  | 0, j, h => by cases h
  | n + 1, j, h => by
    simp only [reach] at h
    split at h
    · rename_i o ho
      simp only [List.any_eq_true, Bool.and_eq_true, Bool.or_eq_true, beq_iff_eq] at h
      obtain ⟨e, he, hb, h⟩ := h
      have hun : listed.getD e.on true = false := by
        rcases h with h | h
        · rw [h]; exact hi
        · exact (reach_spec hc hi n e.on h).1
      have he' : e ∈ o.after := by simpa using he
      constructor
      · cases hl : listed.getD j true with
        | false => rfl
        | true => rw [hc j o ho hl e he' hb] at hun; cases hun
      · intro hr
        obtain ⟨_, o', ho', hall⟩ := mem_ready.1 hr
        rw [ho] at ho'
        cases ho'
        have := getD_true_of (hall e he' hb)
        rw [hun] at this; cases this
    · cases h
/-- Number i may be taken first. -/
theorem wpQ_first {i : Nat} {oi : Oper} {v : Value} {mem : Bool} (hi : ops[i]? = some oi) (hsel : ∀ (j : Nat) (o : Oper) cs b, ops[j]? = some o → o.op ≠ .select cs b)
    (hQ : ∀ c a w, Q (.panic c) (a.put oi.dst v) w → Q (.panic c) a w) :
    ∀ (fuel : Nat) (listed : Array Bool) (a : Act) (w : World), Closed ops listed →
      (∀ j oj, ops[j]? = some oj → j ≠ i → listed.getD j true = false → (∀ e ∈ oj.after, Region.binds .any e = true → e.on ≠ i) → oi.apart ops oj = true) →
      (mem = true → ∀ j, Wr j = true → j ∈ Region.ready .any ops listed → False) → (mem = true → ∀ j, Wr j = true → listed.getD j true = false → reach ops i ops.size j = true) →
      i ∈ Region.ready .any ops listed → YieldsIf P ops (fun w' => mem = true → Quiet w w') oi v a →
      wpQ P ops Q Wr fuel (listed.setIfInBounds i true) (a.put oi.dst v) w → wpQ P ops Q Wr (fuel + 1) listed a w := by
  intro fuel
  induction fuel with
  | zero =>
    intro listed a w hcl _ _ _ hr hy H
    refine ⟨fun h => (by rw [h] at hr; cases hr), fun j hj => ?_⟩
    by_cases hji : j = i
    · subst hji; exact hy.wpOp hi (fun _ => Quiet.refl w) ⟨fun _ => Quiet.refl w, H⟩
    · have := ready_mono hj hji
      rw [H.1] at this
      cases this
  | succ fuel ih =>
    intro listed a w hcl hfree hnw hreach hr hy H
    refine ⟨fun h => (by rw [h] at hr; cases hr), fun j hj => ?_⟩
    by_cases hji : j = i
    · subst hji; exact hy.wpOp hi (fun _ => Quiet.refl w) ⟨fun _ => Quiet.refl w, H⟩
    · have h1 := H.2 j (ready_mono hj hji)
      obtain ⟨hjun, oj, hoj, hall⟩ := mem_ready.1 hj
      have hnot : ∀ e ∈ oj.after, Region.binds .any e = true → e.on ≠ i := fun e he hb heq => by
        have h1 := hall e he hb
        have h0 := (mem_ready.1 hr).1
        rw [heq] at h1
        rcases Nat.lt_or_ge i listed.size with h' | h'
        · simp [h'] at h0 h1; rw [h0] at h1; cases h1
        · simp [Array.getElem?_eq_none h'] at h1
      have h2 := wpOp_putIf hoj (hfree j oj hoj hji hjun hnot) (fun cs b => hsel i oi cs b hi) (fun cs b => hsel j oj cs b hoj) hQ hy h1
      have hfree' : ∀ k ok, ops[k]? = some ok → k ≠ i → (listed.setIfInBounds j true).getD k true = false →
          (∀ e ∈ ok.after, Region.binds .any e = true → e.on ≠ i) → oi.apart ops ok = true := fun k ok hk hki hun hno => by
        refine hfree k ok hk hki ?_ hno
        by_cases hjk : j = k
        · subst hjk; exact hjun
        · rw [getD_set_ne true hjk] at hun; exact hun
      have hcl' := hcl.step hj
      have hr' := ready_mono hr (Ne.symm hji)
      have hi' : (listed.setIfInBounds j true).getD i true = false := (mem_ready.1 hr').1
      have hreach' : mem = true → ∀ k, Wr k = true → (listed.setIfInBounds j true).getD k true = false → reach ops i ops.size k = true := fun hm k hk hun => by
        refine hreach hm k hk ?_
        by_cases hjk : j = k
        · subst hjk; exact hjun
        · rw [getD_set_ne true hjk] at hun; exact hun
      refine wpOp_mono (fun a' w' h3 => ?_) h2
      obtain ⟨h3y, h3q, h3w⟩ := h3
      refine ⟨h3q, ih (listed.setIfInBounds j true) a' w' hcl' hfree' (fun hm k hk hkr => ?_) hreach' hr' ?_ ?_⟩
      · exact (reach_spec hcl' hi' _ k (hreach' hm k hk (mem_ready.1 hkr).1)).2 hkr
      · refine h3y.imp (fun ⟨x, y⟩ => ⟨x, fun w2 hw2 => y w2 (fun hm => ?_)⟩) id
        have hwj : Wr j = false := by
          cases e : Wr j with
          | false => rfl
          | true => exact absurd hj (fun h => hnw hm j e h)
        exact (h3q hwj).trans (hw2 hm)
      · rw [Array.setIfInBounds_comm _ _ hji]
        exact h3w
end
end Go.Proofs.Ytidicfdcjoggpaa.M
