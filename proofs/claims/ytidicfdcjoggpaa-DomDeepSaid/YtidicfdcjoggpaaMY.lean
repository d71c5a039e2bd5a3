/-
  What may be called less: rows that are owned, and are not written any more.
-/
import Derived.Test.YtidicfdcjoggpaaME
namespace Go.Proofs.Ytidicfdcjoggpaa.M
open Go.RowKit
set_option linter.unusedVariables false
set_option linter.unusedSimpArgs false
variable {P : Program} {W : World} {S : Nat → Prop} {w : World} {N : Nat} {s : AState} {a : Act}
/-- A value may be called y where it was x, if what H' no longer owns is immutable from here on. -/
inductive FZ (H H' : AHeap) : AVal → AVal → Prop
  | refl (x : AVal) : FZ H H' x x
  | any (x : AVal) : FZ H H' x .any
  | nil (sz : Nat) : FZ H H' (.v (.slice none 0 0)) (.sl false sz [])
  | loose (full : Bool) (sz : Nat) (rows : List (List AVal)) : FZ H H' (.sl full sz rows) (.sl false sz rows)
  | buf {g E sz n : Nat} {rows rows' : List (List AVal)} (hb : H g = some (.buf E sz rows)) (hf : H' g = none) (hn : n ≤ rows.length) (hl : rows'.length = n) (hz : ∀ i (hi : i < rows'.length), rows'[i].length = sz)
      (ho : ∀ i (hi : i < rows'.length) j (hj : j < rows'[i].length), rows'[i][j].one = true)
      (h : ∀ i (hi : i < rows.length) (hi' : i < rows'.length) j (hj : j < rows[i].length) (hj' : j < rows'[i].length), FZ H H' rows[i][j] rows'[i][j]) : FZ H H' (.bs g sz n) (.sl false sz rows')
  | view {full : Bool} {g E sz lo n : Nat} {rows rows' : List (List AVal)} (hb : H g = some (.buf E sz rows)) (hf : H' g = none) (hn : lo + n ≤ rows.length) (hl : rows'.length = n) (hz : ∀ i (hi : i < rows'.length), rows'[i].length = sz)
      (ho : ∀ i (hi : i < rows'.length) j (hj : j < rows'[i].length), rows'[i][j].one = true)
      (h : ∀ i (hi : lo + i < rows.length) (hi' : i < rows'.length) j (hj : j < rows[lo + i].length) (hj' : j < rows'[i].length), FZ H H' rows[lo + i][j] rows'[i][j]) : FZ H H' (.bv full g sz lo n) (.sl false sz rows')
  | tup {xs ys : List AVal} (hl : ys.length = xs.length) (h : ∀ j (hj : j < xs.length) (hj' : j < ys.length), FZ H H' xs[j] ys[j]) : FZ H H' (.tup xs) (.tup ys)
  | agg {xs ys : List AVal} (hl : ys.length = xs.length) (ho : ∀ j (hj : j < ys.length), ys[j].one = true) (h : ∀ j (hj : j < xs.length) (hj' : j < ys.length), FZ H H' xs[j] ys[j]) : FZ H H' (.agg xs) (.agg ys)
theorem FZ.sound {H H' : AHeap} (hw : WR W S H w) (hs : Sub H' H) {x y : AVal} (h : FZ H H' x y) : ∀ {u : Value}, VR S w x u → VR (fun b => S b ∨ (H b ≠ none ∧ H' b = none)) w y u := by
  have mono : ∀ {x : AVal} {u : Value}, VR S w x u → VR (fun b => S b ∨ (H b ≠ none ∧ H' b = none)) w x u := fun h => h.keep (fun b hb => ⟨.inl hb, rfl⟩) (fun _ _ h => h)
  induction h with
  | refl x => exact mono
  | any x => intro u _; exact .any u
  | nil sz =>
    intro u hu
    cases hu
    exact .sl (rows := []) (fun _ _ => undef) (Nat.le_refl _) (Nat.zero_le _) (fun e => by cases e) (.inl rfl) (fun i hi => by simp at hi) (fun i hi => by simp at hi) (fun i hi => by simp at hi)
  | loose full sz rows =>
    intro u hu
    cases mono hu with
    | sl us hc hm hf hb hl ho hh => exact .sl us hc hm (fun e => by cases e) hb hl ho hh
  | @buf g E sz n rows rows' hb hf hn hl hz ho h ih =>
    intro u hu
    cases hu with
    | @bs _ _ _ c hnc hm hwd =>
    obtain ⟨cur, fz, c', h1, h2, h3, h4, h5, h6, h7, h8⟩ := hw.objs _ _ hb
    subst hl
    refine .sl (fun i j => cur.getD (i * sz + j) undef) hnc hm (fun e => by cases e) ?_ hz ho (fun i hi j hj => ?_)
    · refine .inr ⟨g, 0, rfl, .inr ⟨by rw [hb]; simp, hf⟩, fun i j hi hj => ?_⟩
      obtain ⟨v, hv, _⟩ := h8 i (by omega) j (by rw [h6 i (by omega)]; exact hj)
      rw [Nat.zero_add, cell_at h1, hv]
      simp [hv]
    · have hjz := hz i hi
      obtain ⟨v, hv, hr⟩ := h8 i (by omega) j (by rw [h6 i (by omega)]; omega)
      have := ih i (by omega) hi j (by rw [h6 i (by omega)]; omega) hj hr
      simpa [hv] using this
  | @view full g E sz lo n rows rows' hb hf hn hl hz ho h ih =>
    intro u hu
    cases hu with
    | @bv _ _ _ _ _ c A hA hnc hm hfl =>
    obtain ⟨cur, fz, c', h1, h2, h3, h4, h5, h6, h7, h8⟩ := hw.objs _ _ hb
    subst hl
    refine .sl (fun i j => cur.getD ((lo + i) * sz + j) undef) hnc hm (fun e => by cases e) ?_ hz ho (fun i hi j hj => ?_)
    · by_cases h0 : rows'.length = 0
      · exact .inl (List.length_eq_zero_iff.1 h0)
      · refine .inr ⟨g, lo * sz, by rw [hA (by omega)], .inr ⟨by rw [hb]; simp, hf⟩, fun i j hi hj => ?_⟩
        obtain ⟨v, hv, _⟩ := h8 (lo + i) (by omega) j (by rw [h6 (lo + i) (by omega)]; exact hj)
        rw [show lo * sz + i * sz + j = (lo + i) * sz + j by rw [Nat.add_mul], cell_at h1, hv]
        simp [hv]
    · have hjz := hz i hi
      obtain ⟨v, hv, hr⟩ := h8 (lo + i) (by omega) j (by rw [h6 (lo + i) (by omega)]; omega)
      have := ih i (by omega) hi j (by rw [h6 (lo + i) (by omega)]; omega) hj hr
      simpa [hv] using this
  | @tup xs ys hl h ih =>
    intro u hu
    cases hu with
    | tup us hl2 hv hh => exact .tup us (by omega) hv (fun j hj => ih j (by omega) hj (hh j (by omega)))
  | @agg xs ys hl ho h ih =>
    intro u hu
    cases hu with
    | agg us hl2 hv ho2 hh => exact .agg us (by omega) hv ho (fun j hj => ih j (by omega) hj (hh j (by omega)))
theorem FZ.take {H H' : AHeap} (hw : WR W S H w) {g E sz n : Nat} {rows : List (List AVal)} (hb : H g = some (.buf E sz rows)) : True := trivial
/-- The same world, its owned part called smaller. -/
theorem less_ext {H H' : AHeap} (hw : WR W S H w) (hs : Sub H' H) : Ext S H w (fun b => S b ∨ (H b ≠ none ∧ H' b = none)) H' w ∧ WR W (fun b => S b ∨ (H b ≠ none ∧ H' b = none)) H' w := by
  refine ⟨⟨Nat.le_refl _, fun _ _ _ => rfl, fun _ _ h => h, fun _ h => .inl h, fun b h => ?_, fun b h => ?_⟩, ⟨hw.old, fun b o h => hw.new b o (hs b o h), fun b h => ?_, fun b o h hS => ?_, fun b o h => (hw.objs b o (hs b o h)).keep (fun b hb => ⟨.inl hb, rfl⟩) (fun _ _ h => h) rfl⟩⟩
  · rcases h with h | h
    · exact .inl h
    · exact .inr (.inr h.1)
  · left
    intro e
    cases e2 : H' b with
    | none => exact h e2
    | some o => rw [hs b o e2] at e; cases e
  · rcases h with h | h
    · exact hw.lt b h
    · cases e : H b with
      | none => exact absurd e h.1
      | some o => exact (hw.objs b o e).lt
  · rcases hS with hS | hS
    · exact hw.apart b o (hs b o h) hS
    · rw [h] at hS; cases hS.2
def Weak (s s0 : AState) : Prop := Sub s0.H s.H ∧ ∀ k, FZ s.H s0.H (tget s.tm k) (tget s0.tm k)
theorem Weak.refl (s : AState) : Weak s s := ⟨Sub.refl _, fun k => .refl _⟩
theorem Weak.sound (hr : SR W N S s a w) {s0 : AState} (h : Weak s s0) : ∃ S', Ext S s.H w S' s0.H w ∧ SR W N S' s0 a w := by
  obtain ⟨hx, hw⟩ := less_ext hr.wr h.1
  exact ⟨_, hx, hr.defers, hr.size, fun k => (h.2 k).sound hr.wr h.1 (hr.tm k), hw⟩
theorem tget_any {tm : List (Nat × AVal)} {k : Nat} (h : ∀ p ∈ tm, p.1 ≠ k) : tget tm k = .any := by
  induction tm with
  | nil => rfl
  | cons p tm ih =>
    obtain ⟨j, x⟩ := p
    rw [tget, if_neg (h (j, x) (by simp))]
    exact ih (fun p hp => h p (by simp [hp]))
theorem FZ.list {H H' : AHeap} {tm : List (Nat × AVal)} : ∀ (l : List (Nat × AVal)), (∀ p ∈ l, FZ H H' (tget tm p.1) p.2) → ∀ k, FZ H H' (tget tm k) (tget l k)
  | [], _, k => .any _
  | (j, x) :: l, h, k => by
    rw [tget]
    split
    · rename_i e; subst e; exact h (j, x) (by simp)
    · exact FZ.list l (fun p hp => h p (by simp [hp])) k
theorem Weak.list {tm : List (Nat × AVal)} {H H' : AHeap} (l : List (Nat × AVal)) (hs : Sub H' H) (h : ∀ p ∈ l, FZ H H' (tget tm p.1) p.2) : Weak ⟨tm, H⟩ ⟨l, H'⟩ := ⟨hs, FZ.list l h⟩

end Go.Proofs.Ytidicfdcjoggpaa.M
