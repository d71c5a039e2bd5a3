/-
  A tree's size and text, in the abstract machine's words.
-/
import Derived.Test.YtidicfdcjoggpaaBridge
import Derived.Test.YtidicfdcjoggpaaDomSize
namespace Go.Proofs.Ytidicfdcjoggpaa.M
open Go.RowKit
set_option linter.unusedVariables false
set_option linter.unusedSimpArgs false
variable {S : Nat → Prop} {w : World}
theorem nodes_to : ∀ (n : Nat) (xs : List Node), (∀ x ∈ xs, SizeOf.sizeOf x < n) → ∀ {f : Bool} {v : Value}, VR S w (.sl f 4 (xs.map nodeRow)) v → SliceIs w S v xs
  | 0, xs, hn, f, v, h => by
    have : xs = [] := by cases xs with
      | nil => rfl
      | cons x xs => exact absurd (hn x (by simp)) (by omega)
    subst this
    exact sl_to (α := Node) (fun x => by rw [nodeRow_def]; rfl) (fun x hx => by cases hx) h
  | n + 1, xs, hn, f, v, h => by
    refine sl_to (α := Node) (fun x => by rw [nodeRow_def]; rfl) (fun x hx cs hl hv => ?_) h
    rw [nodeRow_def] at hv
    have h0 := hv 0 (by simp) (by rw [hl]; decide)
    have h1 := hv 1 (by simp) (by rw [hl]; decide)
    have h2 := hv 2 (by simp) (by rw [hl]; decide)
    have h3 := hv 3 (by simp) (by rw [hl]; decide)
    match cs, hl with
    | [a, b, c, d], _ =>
      simp only [List.getElem_cons_zero, List.getElem_cons_succ] at h0 h1 h2 h3
      have h1 := attrs_to h1
      have h3 := nodes_to n x.kids (fun k hk => by
        have := List.sizeOf_lt_of_mem hk
        have h3 := hn x hx
        obtain ⟨nm, ats, tx, ks⟩ := x
        simp at h3 this hk ⊢
        omega) h3
      show NodeIs w S x _
      rw [NodeIs_def]
      generalize x.name = nm at h0
      generalize x.text = tx at h2
      cases h0; cases h2
      exact ⟨b, d, rfl, h1, h3⟩
theorem lift_one {W : World} {f : FuncId} {x r : AVal} {rv : Value} (h : ∀ (S : Nat → Prop) w u, VR S w x u → Calls Try.prog f #[u] w fun e w' => e = .returned rv ∧ Below w.heap.size w w') (hr : ∀ (S : Nat → Prop) w, VR S w r rv) : ACalls Try.prog W f [x] AHeap.none fun v _ => v = r := by
  intro S w us hw hv
  obtain ⟨hsz, hv⟩ := hv
  have h0 := hv 0 (by simp) (by rw [hsz]; simp)
  obtain ⟨u, rfl⟩ : ∃ u, us = #[u] := ⟨us[0]'(by rw [hsz]; simp), by
    apply Array.ext
    · simpa using hsz
    · intro i h1 h2; simp at h2; subst h2; rfl⟩
  simp only [List.getElem_cons_zero, List.getElem_toArray] at h0
  refine (h S w u h0).mono ?_
  rintro e w' ⟨rfl, hb⟩
  obtain ⟨h1, h2⟩ := below_facts hw hb
  exact ⟨_, AHeap.none, S, _, rfl, rfl, h1, h2, hr S w'⟩
theorem size_ok {W : World} (f : Bool) (l : List Node) (hs : nCount l ≤ 1000000000) : ACalls Try.prog W 23 [.sl f 4 (l.map nodeRow)] AHeap.none fun v _ => v = .tup [.v (.int .i64 (nCount l)), .v (.int .i64 (nDeep l))] :=
  lift_one (fun S w u hu => (size_any w S u l (nodes_to (SizeOf.sizeOf l + 1) l (fun x hx => by have := List.sizeOf_lt_of_mem hx; omega) hu) hs).mono fun e w' h => ⟨h.1, h.2.below⟩) (fun S w => VR.pair (.v _) (.v _))
theorem text_ok {W : World} (f : Bool) (l : List Node) (hs : (nText l).size ≤ 1000000000) : ACalls Try.prog W 21 [.sl f 4 (l.map nodeRow)] AHeap.none fun v _ => v = .v (.string (nText l)) :=
  lift_one (fun S w u hu => (nodesText_any w S u l (nodes_to (SizeOf.sizeOf l + 1) l (fun x hx => by have := List.sizeOf_lt_of_mem hx; omega) hu) hs).mono fun e w' h => ⟨h.1, h.2.below⟩) (fun S w => .v _)
end Go.Proofs.Ytidicfdcjoggpaa.M
