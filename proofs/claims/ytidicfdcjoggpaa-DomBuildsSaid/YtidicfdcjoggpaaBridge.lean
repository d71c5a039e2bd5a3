/-
  The older contracts of this seat, in the abstract machine's words.
-/
import Derived.Test.YtidicfdcjoggpaaDomBuild
import Derived.Test.YtidicfdcjoggpaaMV
namespace Go.Proofs.Ytidicfdcjoggpaa.M
open Go.RowKit
set_option linter.unusedVariables false
set_option linter.unusedSimpArgs false
def attrRow (a : Attr) : List AVal := [.v (.string a.name), .v (.string a.value)]
def tokRow (t : Token) : List AVal := [.v (.int .i64 t.kind), .v (.string t.name), .sl false 2 (t.attrs.map attrRow), .v (.bool t.closed), .v (.string t.text)]
def nodeRow : Node → List AVal
  | ⟨nm, ats, tx, ks⟩ => [.v (.string nm), .sl false 2 (ats.map attrRow), .v (.string tx), .sl false 4 (ks.attach.map fun ⟨k, hk⟩ => nodeRow k)]
termination_by n => SizeOf.sizeOf n
decreasing_by
  have := List.sizeOf_lt_of_mem hk
  simp; omega
theorem nodeRow_def (n : Node) : nodeRow n = [.v (.string n.name), .sl false 2 (n.attrs.map attrRow), .v (.string n.text), .sl false 4 (n.kids.map nodeRow)] := by
  obtain ⟨nm, ats, tx, ks⟩ := n
  rw [nodeRow]
  simp
variable {S S' : Nat → Prop} {w : World}
theorem sl_to {α : Type} [Rep α] {row : α → List AVal} (hr : ∀ x : α, (row x).length = Rep.sz α) {f : Bool} {xs : List α} {v : Value}
    (hto : ∀ x ∈ xs, ∀ cs : List Value, cs.length = Rep.sz α → (∀ i (hi : i < (row x).length) (hi' : i < cs.length), VR S w (row x)[i] cs[i]) → Rep.Is w S x cs) (h : VR S w (.sl f (Rep.sz α) (xs.map row)) v) : SliceIs w S v xs := by
  cases h with
  | @sl _ _ _ A c us hc hm hf hb hl ho hh =>
  simp only [List.length_map] at hc ⊢
  refine ⟨A, c, rfl, hc, hm, fun hn => ?_⟩
  rcases hb with hb | ⟨b, o, rfl, hS, hcell⟩
  · rw [List.map_eq_nil_iff] at hb; subst hb; simp at hn
  · refine ⟨b, o, rfl, hS, fun i hi => ⟨(List.range (Rep.sz α)).map (us i), ⟨hi, hto _ (List.getElem_mem hi) _ (by simp) fun j hj hj' => ?_⟩, by simp, fun j u hu => ?_⟩⟩
    · have := hh i (by simpa using hi) j (by simpa using hj)
      simpa using this
    · obtain ⟨hj, rfl⟩ := List.getElem?_eq_some_iff.1 hu
      simp at hj ⊢
      exact hcell i j (by simpa using hi) hj
theorem sl_from {α : Type} [Rep α] {row : α → List AVal} {P : FP} (hr : ∀ x : α, (row x).length = Rep.sz α) (hone : ∀ x : α, ∀ y ∈ row x, y.one = true) {xs : List α} {v : Value} (hP : ∀ b, P b → S b)
    (hfrom : ∀ x ∈ xs, ∀ cs : List Value, Rep.Is w P x cs → ∀ i (hi : i < (row x).length) (hi' : i < cs.length), VR S w (row x)[i] cs[i]) (h : SliceIs w P v xs) : VR S w (.sl false (Rep.sz α) (xs.map row)) v := by
  obtain ⟨A, c, rfl, hc, hm, hn⟩ := h
  have hlen : (xs.map row).length = xs.length := by simp
  rw [show Value.slice A xs.length c = Value.slice A (xs.map row).length c by rw [hlen]]
  by_cases h0 : 0 < xs.length
  · obtain ⟨b, o, rfl, hb, hx⟩ := hn h0
    obtain ⟨css, hcl, hcs⟩ := choose_list xs.length hx
    refine .sl (fun i j => (css.getD i []).getD j undef) (by rw [hlen]; exact hc) hm (fun e => by cases e) (.inr ⟨b, o, rfl, hP b hb, fun i j hi hj => ?_⟩) (fun i hi => by simp [hr]) (fun i hi j hj => ?_) (fun i hi j hj => ?_)
    · rw [hlen] at hi
      obtain ⟨⟨_, h1⟩, h2, h3⟩ := hcs i (by omega)
      have := h3 j _ (List.getElem?_eq_getElem (by omega))
      rw [this]
      simp [hcl, hi, h2, hj]
    · exact hone _ _ (by simp at hi hj ⊢; exact List.getElem_mem _)
    · rw [hlen] at hi
      obtain ⟨⟨_, h1⟩, h2, h3⟩ := hcs i (by omega)
      simp only [List.getElem_map] at hj ⊢
      have hj' : j < css[i].length := by rw [h2, ← hr]; exact hj
      have := hfrom _ (List.getElem_mem hi) _ h1 j hj hj'
      simpa [hcl, hi, hj'] using this
  · have : xs = [] := List.length_eq_zero_iff.1 (by omega)
    subst this
    exact .sl (rows := []) (fun _ _ => undef) hc hm (fun e => by cases e) (.inl rfl) (fun i hi => by simp at hi) (fun i hi => by simp at hi) (fun i hi => by simp at hi)
theorem attrs_to {f : Bool} {xs : List Attr} {v : Value} (h : VR S w (.sl f 2 (xs.map attrRow)) v) : SliceIs w S v xs :=
  sl_to (α := Attr) (fun _ => rfl) (fun x _ cs hl hv => by
    have h0 := hv 0 (by simp [attrRow]) (by rw [hl]; decide)
    have h1 := hv 1 (by simp [attrRow]) (by rw [hl]; decide)
    match cs, hl with
    | [a, b], _ =>
      simp only [attrRow, List.getElem_cons_zero, List.getElem_cons_succ] at h0 h1
      cases h0; cases h1; rfl) h
theorem attrs_from {P : FP} {xs : List Attr} {v : Value} (hP : ∀ b, P b → S b) (h : SliceIs w P v xs) : VR S w (.sl false 2 (xs.map attrRow)) v :=
  sl_from (α := Attr) (fun _ => rfl) (fun x y hy => by simp [attrRow] at hy; rcases hy with rfl | rfl <;> rfl) hP (fun x _ cs hv i hi hi' => by
    have hv : cs = [.string x.name, .string x.value] := hv
    subst hv
    rcases i with _ | _ | i
    · exact .v _
    · exact .v _
    · simp [attrRow] at hi; omega) h
theorem toks_to {f : Bool} {xs : List Token} {v : Value} (h : VR S w (.sl f 5 (xs.map tokRow)) v) : SliceIs w S v xs :=
  sl_to (α := Token) (fun _ => rfl) (fun x _ cs hl hv => by
    have h0 := hv 0 (by simp [tokRow]) (by rw [hl]; decide)
    have h1 := hv 1 (by simp [tokRow]) (by rw [hl]; decide)
    have h2 := hv 2 (by simp [tokRow]) (by rw [hl]; decide)
    have h3 := hv 3 (by simp [tokRow]) (by rw [hl]; decide)
    have h4 := hv 4 (by simp [tokRow]) (by rw [hl]; decide)
    match cs, hl with
    | [a, b, c, d, e], _ =>
      simp only [tokRow, List.getElem_cons_zero, List.getElem_cons_succ] at h0 h1 h2 h3 h4
      have h2 := attrs_to h2
      cases h0; cases h1; cases h3; cases h4
      exact ⟨c, rfl, h2⟩) h
theorem nodes_from {P : FP} (hP : ∀ b, P b → S b) : ∀ (n : Nat) (xs : List Node), (∀ x ∈ xs, SizeOf.sizeOf x < n) → ∀ {v : Value}, SliceIs w P v xs → VR S w (.sl false 4 (xs.map nodeRow)) v
  | 0, xs, hn, v, h => by
    have : xs = [] := by cases xs with
      | nil => rfl
      | cons x xs => exact absurd (hn x (by simp)) (by omega)
    subst this
    exact sl_from (α := Node) (fun x => by rw [nodeRow_def]; rfl) (fun x y hy => by rw [nodeRow_def] at hy; simp at hy; rcases hy with rfl | rfl | rfl | rfl <;> rfl) hP (fun x hx => by cases hx) h
  | n + 1, xs, hn, v, h => by
    refine sl_from (α := Node) (fun x => by rw [nodeRow_def]; rfl) (fun x y hy => by rw [nodeRow_def] at hy; simp at hy; rcases hy with rfl | rfl | rfl | rfl <;> rfl) hP (fun x hx cs hv => ?_) h
    have hv : NodeIs w P x cs := hv
    rw [NodeIs_def] at hv
    obtain ⟨va, vk, rfl, h1, h2⟩ := hv
    have hk := nodes_from hP n x.kids (fun k hk => by
      have := List.sizeOf_lt_of_mem hk
      have h3 := hn x hx
      obtain ⟨nm, ats, tx, ks⟩ := x
      simp at h3 this hk ⊢
      omega) (v := vk) h2
    rw [nodeRow_def]
    intro i hi hi'
    rcases i with _ | _ | _ | _ | i
    · exact .v _
    · exact attrs_from hP h1
    · exact .v _
    · exact hk
    · simp at hi; omega
/-- A call that leaves what stood as it was. -/
theorem below_facts {W : World} {w w' : World} (hw : WR W S AHeap.none w) (hbel : Below w.heap.size w w') : Ext S AHeap.none w S AHeap.none w' ∧ WR W S AHeap.none w' :=
  ⟨⟨hbel.size, fun b hb _ => hbel.block b hb, fun b m ⟨cur, E, fz, h1, h2⟩ => ⟨cur, E, fz, (hbel.block b (lt_of_some h1)).trans h1, h2⟩, fun _ h => h, fun _ h => .inl h, fun b h => absurd rfl h⟩,
   ⟨⟨hbel.os.trans hw.old.os, hbel.tape.trans hw.old.tape, hbel.output.trans hw.old.output, Nat.le_trans hw.old.size hbel.size, fun b hb => (hbel.block b (Nat.lt_of_lt_of_le hb hw.old.size)).trans (hw.old.block b hb)⟩, fun _ _ h => (by cases h), fun b h => Nat.lt_of_lt_of_le (hw.lt b h) hbel.size, fun _ _ h => (by cases h), fun _ _ h => (by cases h)⟩⟩
theorem lift_none {W : World} {f : FuncId} {u : Value} (h : ∀ w, Calls Try.prog f #[] w fun e w' => e = .returned u ∧ Below w.heap.size w w') : ACalls Try.prog W f [] AHeap.none fun r _ => r = .v u := by
  intro S w us hw hv
  obtain rfl : us = #[] := Array.eq_empty_of_size_eq_zero (by simpa using hv.1)
  refine (h w).mono ?_
  rintro e w' ⟨rfl, hb⟩
  obtain ⟨h1, h2⟩ := below_facts hw hb
  exact ⟨_, AHeap.none, S, _, rfl, rfl, h1, h2, .v _⟩
def buildR (l : List Token) : AVal := match build l with
  | none => .tup [.v (.slice none 0 0), .v (.int .i64 5)]
  | some ns => .tup [.sl false 4 (ns.map nodeRow), .v (.int .i64 0)]
theorem build_ok {W : World} (f : Bool) (l : List Token) (hl : l.length ≤ 1000000) (hal : ∀ t ∈ l, t.attrs.length ≤ 1000000) (hts : textsSize l ≤ 900000) : ACalls Try.prog W 14 [.sl f 5 (l.map tokRow)] AHeap.none (fun r _ => r = buildR l) := by
  intro S w us hw hv
  obtain ⟨hsz, hv⟩ := hv
  have h0 := hv 0 (by simp) (by rw [hsz]; simp)
  obtain ⟨u, rfl⟩ : ∃ u, us = #[u] := ⟨us[0]'(by rw [hsz]; simp), by
    apply Array.ext
    · simpa using hsz
    · intro i h1 h2; simp at h2; subst h2; rfl⟩
  simp only [List.getElem_cons_zero, List.getElem_toArray] at h0
  have hs := (toks_to h0).frame (w' := w) (Q := fun b => b < w.heap.size) (fun _ _ => rfl) (fun b hb => hw.lt b hb)
  refine (build_any w u l hs hl hal hts).mono ?_
  rintro e w' ⟨hp, hbel⟩
  have hx : Ext S AHeap.none w (fun b => S b ∨ (w.heap.size ≤ b ∧ b < w'.heap.size)) AHeap.none w' := ⟨hbel.size, fun b hb _ => hbel.block b hb, fun b m ⟨cur, E, fz, h1, h2⟩ => ⟨cur, E, fz, (hbel.block b (lt_of_some h1)).trans h1, h2⟩, fun _ h => .inl h, fun b h => by
    rcases h with h | h
    · exact .inl h
    · exact .inr (.inl h.1), fun b h => absurd rfl h⟩
  have hw' : WR W (fun b => S b ∨ (w.heap.size ≤ b ∧ b < w'.heap.size)) AHeap.none w' := ⟨⟨hbel.os.trans hw.old.os, hbel.tape.trans hw.old.tape, hbel.output.trans hw.old.output, Nat.le_trans hw.old.size hbel.size, fun b hb => (hbel.block b (Nat.lt_of_lt_of_le hb hw.old.size)).trans (hw.old.block b hb)⟩, fun _ _ h => (by cases h), fun b h => by
    rcases h with h | h
    · exact Nat.lt_of_lt_of_le (hw.lt b h) hbel.size
    · exact h.2, fun _ _ h => (by cases h), fun _ _ h => (by cases h)⟩
  unfold BuildPost at hp
  unfold buildR
  split at hp
  · rename_i e1
    subst hp
    refine ⟨_, AHeap.none, _, _, rfl, rfl, hx, hw', ?_⟩
    rw [e1]
    exact VR.pair (.v _) (.v _)
  · rename_i ns e1
    obtain ⟨v, rfl, hns⟩ := hp
    refine ⟨_, AHeap.none, _, _, rfl, rfl, hx, hw', ?_⟩
    rw [e1]
    exact VR.pair (nodes_from (fun b hb => .inr hb) (SizeOf.sizeOf ns + 1) ns (fun x hx => by have := List.sizeOf_lt_of_mem hx; omega) hns) (.v _)
end Go.Proofs.Ytidicfdcjoggpaa.M
