/-
  A region that draws its order, walked once: reads are taken first under S1 (which holds throughout) and S2 (which holds till operation number B is carried out).
-/
import Derived.Test.YtidicfdcjoggpaaLib
namespace Go.Proofs.Ytidicfdcjoggpaa
open Go.RowKit
set_option linter.unusedVariables false
set_option linter.unusedSimpArgs false
section
variable {P : Program} {ops : Array Oper} {Q : Exit → Act → World → Prop} {md : Region.Mode} {S1 S2 : World → Prop} {B : Nat}
def wpB (P : Program) (md : Region.Mode) (ops : Array Oper) (Q : Exit → Act → World → Prop) (S1 S2 : World → Prop) (B : Nat) : Nat → Array Bool → Act → World → Prop
  | 0, listed, a, w => Region.ready md ops listed = [] ∧ Q .normal a w
  | fuel + 1, listed, a, w =>
    (Region.ready md ops listed = [] → Q .normal a w) ∧
    ∀ i ∈ Region.ready md ops listed, wpOp P ops Q i (fun a' w' => (S1 w' ∧ ((listed.setIfInBounds i true).getD B true = false → S2 w')) ∧ wpB P md ops Q S1 S2 B fuel (listed.setIfInBounds i true) a' w') a w
theorem wpAny_of_B : ∀ (fuel : Nat) (listed : Array Bool) (a : Act) (w : World), wpB P md ops Q S1 S2 B fuel listed a w → wpAny P md ops Q fuel listed a w
  | 0, _, _, _, h => h
  | fuel + 1, _, _, _, h => ⟨h.1, fun i hi => wpOp_mono (fun a' w' h' => wpAny_of_B fuel _ a' w' h'.2) (h.2 i hi)⟩
def Closed (md : Region.Mode) (ops : Array Oper) (listed : Array Bool) : Prop :=
  ∀ (j : Nat) (o : Oper), ops[j]? = some o → listed.getD j true = true → ∀ e ∈ o.after, Region.binds md e = true → listed.getD e.on true = true
theorem getD_true_of {l : Array Bool} {k : Nat} (h : l.getD k false = true) : l.getD k true = true := by
  rcases Nat.lt_or_ge k l.size with h' | h'
  · simp [h'] at h ⊢; exact h
  · simp [Array.getElem?_eq_none h'] at h
theorem Closed.step {listed : Array Bool} {i : Nat} (h : Closed md ops listed) (hr : i ∈ Region.ready md ops listed) : Closed md ops (listed.setIfInBounds i true) := by
  intro j o hj hl e he hb
  obtain ⟨h0, oi, hoi, hall⟩ := mem_ready.1 hr
  by_cases hij : i = j
  · subst hij
    rw [hoi] at hj
    cases hj
    exact getD_true_of (getD_set_true (hall e he hb))
  · rw [getD_set_ne true hij] at hl
    have h1 := h j o hj hl e he hb
    by_cases hie : i = e.on
    · rw [← hie]
      rcases Nat.lt_or_ge i listed.size with h' | h'
      · simp [h']
      · simp
    · rw [getD_set_ne true hie]; exact h1
/-- A path of binding edges: each of the list waits for the one ahead of it. -/
def pathB (md : Region.Mode) (ops : Array Oper) : Nat → List Nat → Bool
  | _, [] => true
  | i, j :: l => ((ops[j]?).map fun o => o.after.any fun e => Region.binds md e && e.on == i).getD false && pathB md ops j l
def lastOf : Nat → List Nat → Nat
  | i, [] => i
  | _, j :: l => lastOf j l
theorem path_spec : ∀ (l : List Nat) (i : Nat) (listed : Array Bool), Closed md ops listed → pathB md ops i l = true → listed.getD i true = false → listed.getD (lastOf i l) true = false
  | [], _, _, _, _, h => h
  | j :: l, i, listed, hc, hp, h => by
    simp only [pathB, Bool.and_eq_true] at hp
    refine path_spec l j listed hc hp.2 ?_
    cases hj : ops[j]? with
    | none => simp [hj] at hp
    | some o =>
      simp only [hj, Option.map_some, Option.getD_some, Array.any_eq_true] at hp
      obtain ⟨⟨k, hk, hx⟩, _⟩ := hp
      have he : o.after[k] ∈ o.after := Array.getElem_mem hk
      generalize o.after[k] = e at he hx
      simp only [Bool.and_eq_true, beq_iff_eq] at hx
      cases hl : listed.getD j true with
      | false => rfl
      | true =>
        have := hc j o hj hl e he hx.1
        rw [hx.2, h] at this
        cases this
theorem wpB_first {i : Nat} {oi : Oper} {v : Value} {T : World → Prop} (hi : ops[i]? = some oi) (hsel : ∀ (j : Nat) (o : Oper) cs b, ops[j]? = some o → o.op ≠ .select cs b)
    (hQ : ∀ c a w, Q (.panic c) (a.put oi.dst v) w → Q (.panic c) a w) (hiB : i ≠ B)
    (hT : ∀ listed w, Closed md ops listed → listed.getD i true = false → S1 w → (listed.getD B true = false → S2 w) → T w) :
    ∀ (fuel : Nat) (listed : Array Bool) (a : Act) (w : World), Closed md ops listed →
      (∀ j oj, ops[j]? = some oj → j ≠ i → listed.getD j true = false → (∀ e ∈ oj.after, Region.binds md e = true → e.on ≠ i) → oi.apart ops oj = true) →
      i ∈ Region.ready md ops listed → YieldsIf P ops T oi v a → S1 w → (listed.getD B true = false → S2 w) →
      wpB P md ops Q S1 S2 B fuel (listed.setIfInBounds i true) (a.put oi.dst v) w → wpB P md ops Q S1 S2 B (fuel + 1) listed a w := by
  intro fuel
  induction fuel with
  | zero =>
    intro listed a w hcl _ hr hy hS hS2 H
    refine ⟨fun h => (by rw [h] at hr; cases hr), fun j hj => ?_⟩
    by_cases hji : j = i
    · subst hji; exact hy.wpOp hi (hT _ _ hcl (mem_ready.1 hr).1 hS hS2) ⟨⟨hS, fun h => hS2 (by rwa [getD_set_ne true hiB] at h)⟩, H⟩
    · have := ready_mono hj hji
      rw [H.1] at this
      cases this
  | succ fuel ih =>
    intro listed a w hcl hfree hr hy hS hS2 H
    refine ⟨fun h => (by rw [h] at hr; cases hr), fun j hj => ?_⟩
    have hTw := hT _ _ hcl (mem_ready.1 hr).1 hS hS2
    by_cases hji : j = i
    · subst hji; exact hy.wpOp hi hTw ⟨⟨hS, fun h => hS2 (by rwa [getD_set_ne true hiB] at h)⟩, H⟩
    · have h1 := H.2 j (ready_mono hj hji)
      obtain ⟨hjun, oj, hoj, hall⟩ := mem_ready.1 hj
      have hnot : ∀ e ∈ oj.after, Region.binds md e = true → e.on ≠ i := fun e he hb heq => by
        have h1 := hall e he hb
        have h0 := (mem_ready.1 hr).1
        rw [heq] at h1
        rcases Nat.lt_or_ge i listed.size with h' | h'
        · simp [h'] at h0 h1; rw [h0] at h1; cases h1
        · simp [Array.getElem?_eq_none h'] at h1
      have h2 := wpOp_putIf hoj (hfree j oj hoj hji hjun hnot) (fun cs b => hsel i oi cs b hi) (fun cs b => hsel j oj cs b hoj) hQ hy h1
      have hfree' : ∀ k ok, ops[k]? = some ok → k ≠ i → (listed.setIfInBounds j true).getD k true = false →
          (∀ e ∈ ok.after, Region.binds md e = true → e.on ≠ i) → oi.apart ops ok = true := fun k ok hk hki hun hno => by
        refine hfree k ok hk hki ?_ hno
        by_cases hjk : j = k
        · subst hjk; exact hjun
        · rw [getD_set_ne true hjk] at hun; exact hun
      refine wpOp_mono (fun a' w' h3 => ?_) h2
      obtain ⟨h3y, ⟨h3S, h3S2⟩, h3w⟩ := h3
      have hS2' : (listed.setIfInBounds j true).getD B true = false → S2 w' := fun h => h3S2 (by
        rw [Array.setIfInBounds_comm _ _ (Ne.symm hji), getD_set_ne true hiB]; exact h)
      refine ⟨⟨h3S, hS2'⟩, ih (listed.setIfInBounds j true) a' w' (hcl.step hj) hfree' (ready_mono hr (Ne.symm hji)) h3y h3S hS2' ?_⟩
      rw [Array.setIfInBounds_comm _ _ hji]
      exact h3w
/-! ### The moves -/
theorem Closed.start (n : Nat) (h : ops.size ≤ n) : Closed md ops (Array.replicate n false) := by
  intro j o hj hl
  have : j < n := Nat.lt_of_lt_of_le (Array.getElem?_eq_some_iff.1 hj).1 h
  simp [this] at hl
/-- Goal: what is left, with all that it needs to go on. -/
def B_ (P : Program) (ops : Array Oper) (Q : Exit → Act → World → Prop) (S1 S2 : World → Prop) (B : Nat) (fuel : Nat) (listed : Array Bool) (a : Act) (w : World) : Prop :=
  Closed .any ops listed → S1 w → (listed.getD B true = false → S2 w) → wpB P .any ops Q S1 S2 B fuel listed a w
theorem B_start {id : Nat} {a : Act} {w : World} (S1 S2 : World → Prop) (B : Nat) (hm : P.follows .mixedOrders = true) (h1 : S1 w.drew) (h2 : S2 w.drew) (n : Nat) (hn : ops.size = n) (l : Array Bool) (hl : Array.replicate n false = l)
    (h : B_ P ops Q S1 S2 B n l a w.drew) : (Code.region id ops true).wp P Q a w :=
  wp_region_any hm (wpAny_of_B (S1 := S1) (S2 := S2) (B := B) _ _ _ _ (by subst hn; subst hl; exact h (Closed.start _ (Nat.le_refl _)) h1 (fun _ => h2)))
/-- Take number i first: it reads under S1 alone. -/
theorem B_take1 (i : Nat) {oi : Oper} {v : Value} {fuel : Nat} {listed l' : Array Bool} {a a' : Act} {w : World} (hi : ops[i]? = some oi) (hs : Region.noSelect ops = true) (hf : Region.free .any ops listed i = true)
    (hr : (Region.ready .any ops listed).contains i = true) (hQ : ∀ c a w, Q (.panic c) (a.put oi.dst v) w → Q (.panic c) a w) (hiB : i ≠ B) (hy : YieldsIf P ops S1 oi v a) (hl : listed.setIfInBounds i true = l') (ha : a.put oi.dst v = a')
    (h : B_ P ops Q S1 S2 B fuel l' a' w) : B_ P ops Q S1 S2 B (fuel + 1) listed a w := by
  intro hc h1 h2
  have hr' : i ∈ Region.ready .any ops listed := by simpa using hr
  subst hl; subst ha
  exact wpB_first hi (Region.noSelect_spec hs) hQ hiB (fun _ _ _ _ h _ => h) fuel listed a w hc (Region.free_spec hi hf) hr' hy h1 h2 (h (hc.step hr') h1 (fun h => h2 (by rwa [getD_set_ne true hiB] at h)))
/-- Take number i first: it reads under S1 and S2; l is a path of edges from it to number B. -/
theorem B_take2 (i : Nat) (l : List Nat) {oi : Oper} {v : Value} {fuel : Nat} {listed l' : Array Bool} {a a' : Act} {w : World} (hi : ops[i]? = some oi) (hs : Region.noSelect ops = true) (hf : Region.free .any ops listed i = true)
    (hr : (Region.ready .any ops listed).contains i = true) (hp : pathB .any ops i l = true) (hlast : lastOf i l = B) (hQ : ∀ c a w, Q (.panic c) (a.put oi.dst v) w → Q (.panic c) a w) (hiB : i ≠ B) (hy : YieldsIf P ops (fun w => S1 w ∧ S2 w) oi v a) (hl : listed.setIfInBounds i true = l') (ha : a.put oi.dst v = a')
    (h : B_ P ops Q S1 S2 B fuel l' a' w) : B_ P ops Q S1 S2 B (fuel + 1) listed a w := by
  intro hc h1 h2
  have hr' : i ∈ Region.ready .any ops listed := by simpa using hr
  subst hl; subst ha
  exact wpB_first hi (Region.noSelect_spec hs) hQ hiB (fun L w hcl hu h1 h2 => ⟨h1, h2 (by rw [← hlast]; exact path_spec l i L hcl hp hu)⟩) fuel listed a w hc (Region.free_spec hi hf) hr' hy h1 h2 (h (hc.step hr') h1 (fun h => h2 (by rwa [getD_set_ne true hiB] at h)))
/-- What comes up now: all of rs, each with what follows. -/
def Each (P : Program) (ops : Array Oper) (Q : Exit → Act → World → Prop) (S1 S2 : World → Prop) (B : Nat) (fuel : Nat) (listed : Array Bool) (a : Act) (w : World) : List Nat → Prop
  | [] => True
  | i :: rs => (∀ K : Act → World → Prop, (∀ a' w', S1 w' → ((listed.setIfInBounds i true).getD B true = false → S2 w') → B_ P ops Q S1 S2 B fuel (listed.setIfInBounds i true) a' w' → K a' w') → wpOp P ops Q i K a w) ∧ Each P ops Q S1 S2 B fuel listed a w rs
theorem Each.spec {fuel : Nat} {listed : Array Bool} {a : Act} {w : World} : ∀ {rs : List Nat}, Each P ops Q S1 S2 B fuel listed a w rs → ∀ i ∈ rs, ∀ K : Act → World → Prop, (∀ a' w', S1 w' → ((listed.setIfInBounds i true).getD B true = false → S2 w') → B_ P ops Q S1 S2 B fuel (listed.setIfInBounds i true) a' w' → K a' w') → wpOp P ops Q i K a w
  | [], _, _, h => by cases h
  | _ :: _, h, i, hi => by
    rcases List.mem_cons.1 hi with rfl | hi
    · exact h.1
    · exact Each.spec h.2 i hi
theorem B_all {rs : List Nat} {fuel : Nat} {listed : Array Bool} {a : Act} {w : World} (hr : Region.ready .any ops listed = rs) (hne : rs ≠ []) (h : S1 w → (listed.getD B true = false → S2 w) → Each P ops Q S1 S2 B fuel listed a w rs) : B_ P ops Q S1 S2 B (fuel + 1) listed a w := by
  intro hc h1 h2
  refine ⟨fun h0 => absurd (hr ▸ h0) hne, fun i hi => (h h1 h2).spec i (hr ▸ hi) _ (fun a' w' s1 s2 hb => ⟨⟨s1, s2⟩, hb (hc.step hi) s1 s2⟩)⟩
theorem B_done {fuel : Nat} {listed : Array Bool} {a : Act} {w : World} (hr : Region.ready .any ops listed = []) (h : Q .normal a w) : B_ P ops Q S1 S2 B fuel listed a w := fun _ _ _ =>
  match fuel with
  | 0 => ⟨hr, h⟩
  | _ + 1 => ⟨fun _ => h, by rw [hr]; simp⟩
/-- One operation, carried out. -/
theorem op_goes {i : Nat} {o : Oper} {K : Act → World → Prop} {a : Act} {w : World} (ho : ops[i]? = some o) (hw : Region.wanted o (yielded ops a.tmps) = true) (h : o.wp P a w K Q) : wpOp P ops Q i K a w := by
  unfold wpOp
  simp only [ho, hw, if_true]
  exact .inl h
theorem B_norm {fuel : Nat} {listed l' : Array Bool} {a a' : Act} {w : World} (hl : listed = l') (ha : a = a') (h : B_ P ops Q S1 S2 B fuel l' a' w) : B_ P ops Q S1 S2 B fuel listed a w := by subst hl; subst ha; exact h
end
end Go.Proofs.Ytidicfdcjoggpaa
