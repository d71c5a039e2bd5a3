/-
  The arguments of a law, read as plain data: what the form's own reading tells, in this seat's words.
-/
import Derived.Test.YtidicfdcjoggpaaData
import Derived.ProofKit
namespace Go.Proofs.Ytidicfdcjoggpaa
open Go.RowKit Go.ChangeShapes Go.WideShapes
set_option linter.unusedVariables false
set_option linter.unusedSimpArgs false
abbrev All : FP := fun _ => True
theorem choose_list {α : Type} {Q : Nat → α → Prop} : ∀ n, (∀ i, i < n → ∃ x, Q i x) → ∃ xs : List α, xs.length = n ∧ ∀ i (h : i < xs.length), Q i xs[i]
  | 0, _ => ⟨[], rfl, fun i h => absurd h (Nat.not_lt_zero i)⟩
  | n + 1, h => by
    obtain ⟨xs, hl, hx⟩ := choose_list n (fun i hi => h i (Nat.lt_succ_of_lt hi))
    obtain ⟨y, hy⟩ := h n (Nat.lt_succ_self n)
    refine ⟨xs ++ [y], by simp [hl], fun i hi => ?_⟩
    by_cases hin : i < xs.length
    · rw [List.getElem_append_left hin]; exact hx i hin
    · have : i = n := by simp at hi; omega
      subst this
      rw [List.getElem_append_right (by omega)]
      simpa [hl] using hy
section
variable {H : Type} {enc : TypeId × Value → H} {w : World} {spare : Nat → Bool} {held : Bool}
/-- A reading of type t at this fuel gives plain data. -/
def Reads (enc : TypeId × Value → H) (w : World) (spare : Nat → Bool) (held : Bool) (α : Type) [Rep α] (t : TypeId) (fuel : Nat) : Prop :=
  ∀ cs r, DataW.trod enc Try.prog w 0 spare held fuel t cs = some r → ∃ x : α, Rep.Is w All x cs
theorem cells_at {a : Addr} {n : Nat} {cs : List Value} (h : w.cells? 0 a n = some cs) : cs.length = n ∧ ∀ j u, cs[j]? = some u → w.cell? (a.add j) = some u := by
  obtain ⟨_, hl, hx⟩ := World.cells?_some h
  refine ⟨hl, fun j u hu => ?_⟩
  have hj : j < cs.length := by rw [List.getElem?_eq_some_iff] at hu; exact hu.1
  rw [hx j (hl ▸ hj)]
  exact hu
theorem reads_str {t : TypeId} {fuel : Nat} (ht : Try.prog.underlying t = some .string) : Reads enc w spare held Str t fuel := fun cs r h => by
  obtain ⟨s, rfl, _⟩ := DataW.trod_string ht h
  exact ⟨s, rfl⟩
theorem reads_int {t : TypeId} {fuel : Nat} (ht : Try.prog.underlying t = some (.int .i64)) : Reads enc w spare held Int t fuel := fun cs r h => by
  obtain ⟨s, rfl, _⟩ := DataW.trod_int ht h
  exact ⟨s, rfl⟩
theorem reads_bool {t : TypeId} {fuel : Nat} (ht : Try.prog.underlying t = some .bool) : Reads enc w spare held Bool t fuel := fun cs r h => by
  obtain ⟨s, rfl, _⟩ := DataW.trod_bool ht h
  exact ⟨s, rfl⟩
theorem reads_slice {α : Type} [Rep α] {t e : TypeId} {fuel : Nat} (ht : Try.prog.underlying t = some (.slice e)) (hc : Try.prog.cellsOf e = Rep.sz α) (he : ∀ n, n < fuel → Reads enc w spare held α e n) : Reads enc w spare held (List α) t fuel := fun cs r h => by
  rcases DataW.trod_slice ht h with ⟨rfl, _⟩ | ⟨a, len, cap, elems, rest, n, rfl, rfl, _, _, hl, hm, hlen, hel, _⟩
  · exact ⟨[], _, rfl, SliceIs.nil _ _⟩
  · have hx : ∀ i, i < len → ∃ x : α, ∃ c, Rep.Is w All x c ∧ c.length = Rep.sz α ∧ ∀ j u, c[j]? = some u → w.cell? ((a.add (i * Rep.sz α)).add j) = some u := fun i hi => by
      have := hel i hi
      rw [hc, List.getElem?_eq_getElem (by omega), Option.bind_eq_some_iff] at this
      obtain ⟨c, h1, h2⟩ := this
      obtain ⟨x, hx⟩ := he n (Nat.lt_succ_self n) _ _ h2
      exact ⟨x, c, hx, cells_at h1⟩
    obtain ⟨xs, hxl, hxs⟩ := choose_list len hx
    subst hxl
    refine ⟨xs, _, rfl, some a, cap, rfl, hl, hm, fun hn => ?_⟩
    obtain ⟨b, o, s⟩ := a
    have hs : s = none := by
      obtain ⟨c, h1, h2, h3⟩ := hxs 0 hn
      have hp : 0 < Rep.sz α := Rep.pos
      have h4 := World.cell?_spot (h3 0 c[0] (List.getElem?_eq_getElem (by omega)))
      cases s with
      | none => rfl
      | some s => simp [Addr.add] at h4
    subst hs
    refine ⟨b, o, rfl, trivial, fun i hi => ?_⟩
    obtain ⟨c, h1, h2, h3⟩ := hxs i hi
    exact ⟨c, ⟨hi, h1⟩, h2, fun j u hu => by have := h3 j u hu; rwa [addr_add, addr_add] at this⟩
theorem field_at {fs : Array Field} {cs : List Value} {xs : List (DataW H × List MemPlace)} {n : Nat} (hf : ∀ (i : Nat) (f : Field), fs[i]? = some f → DataW.trod enc Try.prog w 0 spare held n f.type ((cs.drop f.offset).take (Try.prog.cellsOf f.type)) = xs[i]?) (hxl : xs.length = fs.size) (i : Nat) {f : Field} {u : Value} {t : TypeId} (hi : fs[i]? = some f) (ht : f.type = t) (hc : Try.prog.cellsOf t = 1) (hu : cs[f.offset]? = some u) : ∃ y, DataW.trod enc Try.prog w 0 spare held n t [u] = some y := by
  subst ht
  have h := hf i f hi
  have hlt : i < xs.length := by rw [hxl]; exact (Array.getElem?_eq_some_iff.1 hi).1
  rw [hc, List.getElem?_eq_getElem hlt] at h
  refine ⟨xs[i], ?_⟩
  have hl := (List.getElem?_eq_some_iff.1 hu).1
  rw [List.drop_eq_getElem_cons hl, List.take_succ_cons, List.take_zero, (List.getElem?_eq_some_iff.1 hu).2] at h
  exact h
theorem reads_attr {fuel : Nat} : Reads enc w spare held Attr 71 fuel := fun cs r h => by
  obtain ⟨xs, n, rfl, _, hl, hxl, hf⟩ := DataW.trod_struct Try.underlying71 h
  rw [show Try.prog.cellsOf 71 = 2 by kernel_rfl] at hl
  match cs, hl with
  | [c0, c1], _ =>
    obtain ⟨y0, h0⟩ : ∃ y, DataW.trod enc Try.prog w 0 spare held n 9 [c0] = some y := field_at hf hxl 0 rfl rfl (by kernel_rfl) rfl
    obtain ⟨y1, h1⟩ : ∃ y, DataW.trod enc Try.prog w 0 spare held n 9 [c1] = some y := field_at hf hxl 1 rfl rfl (by kernel_rfl) rfl
    obtain ⟨s0, e0⟩ := reads_str Try.underlying9 _ _ h0
    obtain ⟨s1, e1⟩ := reads_str Try.underlying9 _ _ h1
    cases e0; cases e1
    exact ⟨⟨s0, s1⟩, rfl⟩
theorem reads_attrs {fuel : Nat} : Reads enc w spare held (List Attr) 31 fuel := reads_slice Try.underlying31 (by kernel_rfl) (fun _ _ => reads_attr)
theorem reads_token {fuel : Nat} : Reads enc w spare held Token 33 fuel := fun cs r h => by
  obtain ⟨xs, n, rfl, _, hl, hxl, hf⟩ := DataW.trod_struct Try.underlying33 h
  rw [show Try.prog.cellsOf 33 = 5 by kernel_rfl] at hl
  match cs, hl with
  | [c0, c1, c2, c3, c4], _ =>
    obtain ⟨y0, h0⟩ : ∃ y, DataW.trod enc Try.prog w 0 spare held n 3 [c0] = some y := field_at hf hxl 0 rfl rfl (by kernel_rfl) rfl
    obtain ⟨y1, h1⟩ : ∃ y, DataW.trod enc Try.prog w 0 spare held n 9 [c1] = some y := field_at hf hxl 1 rfl rfl (by kernel_rfl) rfl
    obtain ⟨y2, h2⟩ : ∃ y, DataW.trod enc Try.prog w 0 spare held n 31 [c2] = some y := field_at hf hxl 2 rfl rfl (by kernel_rfl) rfl
    obtain ⟨y3, h3⟩ : ∃ y, DataW.trod enc Try.prog w 0 spare held n 4 [c3] = some y := field_at hf hxl 3 rfl rfl (by kernel_rfl) rfl
    obtain ⟨y4, h4⟩ : ∃ y, DataW.trod enc Try.prog w 0 spare held n 9 [c4] = some y := field_at hf hxl 4 rfl rfl (by kernel_rfl) rfl
    obtain ⟨k, e0⟩ := reads_int Try.underlying3 _ _ h0
    obtain ⟨s1, e1⟩ := reads_str Try.underlying9 _ _ h1
    obtain ⟨ats, va, e2, ha⟩ := reads_attrs _ _ h2
    obtain ⟨cl, e3⟩ := reads_bool Try.underlying4 _ _ h3
    obtain ⟨s4, e4⟩ := reads_str Try.underlying9 _ _ h4
    cases e0; cases e1; cases e2; cases e3; cases e4
    exact ⟨⟨k, s1, ats, cl, s4⟩, _, rfl, ha⟩
theorem reads_node : ∀ fuel, Reads enc w spare held Node 37 fuel := fun fuel => by
  induction fuel using Nat.strongRecOn with
  | _ fuel ih =>
  intro cs r h
  obtain ⟨xs, n, rfl, _, hl, hxl, hf⟩ := DataW.trod_struct Try.underlying37 h
  rw [show Try.prog.cellsOf 37 = 4 by kernel_rfl] at hl
  match cs, hl with
  | [c0, c1, c2, c3], _ =>
    obtain ⟨y0, h0⟩ : ∃ y, DataW.trod enc Try.prog w 0 spare held n 9 [c0] = some y := field_at hf hxl 0 rfl rfl (by kernel_rfl) rfl
    obtain ⟨y1, h1⟩ : ∃ y, DataW.trod enc Try.prog w 0 spare held n 31 [c1] = some y := field_at hf hxl 1 rfl rfl (by kernel_rfl) rfl
    obtain ⟨y2, h2⟩ : ∃ y, DataW.trod enc Try.prog w 0 spare held n 9 [c2] = some y := field_at hf hxl 2 rfl rfl (by kernel_rfl) rfl
    obtain ⟨y3, h3⟩ : ∃ y, DataW.trod enc Try.prog w 0 spare held n 25 [c3] = some y := field_at hf hxl 3 rfl rfl (by kernel_rfl) rfl
    obtain ⟨s0, e0⟩ := reads_str Try.underlying9 _ _ h0
    obtain ⟨ats, va, e1, ha⟩ := reads_attrs _ _ h1
    obtain ⟨s2, e2⟩ := reads_str Try.underlying9 _ _ h2
    obtain ⟨ks, vk, e3, hk⟩ := reads_slice (α := Node) Try.underlying25 (by kernel_rfl) (fun m hm => ih m (by omega)) _ _ h3
    cases e0; cases e1; cases e2; cases e3
    exact ⟨⟨s0, ats, s2, ks⟩, Node.mk_ ha hk⟩
theorem reads_nodes {fuel : Nat} : Reads enc w spare held (List Node) 25 fuel := reads_slice Try.underlying25 (by kernel_rfl) (fun _ _ => reads_node _)
theorem reads_tokens {fuel : Nat} : Reads enc w spare held (List Token) 22 fuel := reads_slice Try.underlying22 (by kernel_rfl) (fun _ _ => reads_token)
theorem reads_strs {fuel : Nat} : Reads enc w spare held (List Str) 35 fuel := reads_slice Try.underlying35 (by kernel_rfl) (fun _ _ => reads_str Try.underlying9)
/-- An argument that is a slice. -/
theorem arg_slice {α : Type} [Rep α] {t e : TypeId} {v : Value} {d : DataW H} {p : List MemPlace} (ht : Try.prog.underlying t = some (.slice e)) (hr : ∀ fuel, Reads enc w spare held (List α) t fuel) {r : Reach} {b0 : Nat} (hv : Value.okWide Try.prog w r b0 t v) (h : DataW.Trod enc Try.prog w 0 spare held t v d p) : ∃ xs : List α, SliceIs w All v xs := by
  obtain ⟨a, l, c, rfl⟩ := okWide_slice ht hv
  obtain ⟨fuel, hf⟩ := h
  obtain ⟨xs, v, e, hx⟩ := hr fuel _ _ hf
  simp only [Value.cells, List.cons.injEq, and_true] at e
  subst e
  exact ⟨xs, hx⟩
end
end Go.Proofs.Ytidicfdcjoggpaa
