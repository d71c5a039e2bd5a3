/-
  Plain data of the program's types (attributes, nodes, tokens), and how they read in memory.
-/
import Derived.Test.YtidicfdcjoggpaaLib
namespace Go.Proofs.Ytidicfdcjoggpaa
open Go.RowKit
set_option linter.unusedVariables false
set_option linter.unusedSimpArgs false
abbrev Str := ByteArray
structure Attr where
  name : Str
  value : Str
structure Node where
  name : Str
  attrs : List Attr
  text : Str
  kids : List Node
structure Token where
  kind : Int
  name : Str
  attrs : List Attr
  closed : Bool
  text : Str
instance : Rep Attr where
  sz := 2
  pos := by decide
  bound h := h
  Is _ _ a cs := cs = [.string a.name, .string a.value]
  len := by rintro _ _ _ _ rfl; rfl
  one := by rintro _ _ _ _ rfl u hu; simp at hu; rcases hu with rfl | rfl <;> rfl
  frame _ _ h := h
instance : Rep Token where
  sz := 5
  pos := by decide
  bound := by rintro _ _ _ _ ⟨va, rfl, h⟩; exact ⟨va, rfl, h.bound⟩
  Is w P t cs := ∃ va, cs = [.int .i64 t.kind, .string t.name, va, .bool t.closed, .string t.text] ∧ SliceIs w P va t.attrs
  len := by rintro _ _ _ _ ⟨va, rfl, _⟩; rfl
  one := by rintro _ _ _ _ ⟨va, rfl, h⟩ u hu; have := h.oneCell; simp at hu; rcases hu with rfl | rfl | rfl | rfl | rfl <;> first | rfl | assumption
  frame hs hq := by rintro ⟨va, rfl, h⟩; exact ⟨va, rfl, h.frame hs hq⟩
def NodeIs (w : World) (P : FP) : Node → List Value → Prop
  | ⟨nm, ats, tx, ks⟩, cs => ∃ va vk, cs = [.string nm, va, .string tx, vk] ∧ SliceIs w P va ats ∧ SliceOf w P 4 vk ks.length (fun i c => ∃ h : i < ks.length, NodeIs w P ks[i] c)
termination_by n => SizeOf.sizeOf n
decreasing_by
  have := List.sizeOf_lt_of_mem (List.getElem_mem h)
  simp; omega
theorem NodeIs_def (w : World) (P : FP) (n : Node) (cs : List Value) : NodeIs w P n cs = ∃ va vk, cs = [.string n.name, va, .string n.text, vk] ∧ SliceIs w P va n.attrs ∧ SliceOf w P 4 vk n.kids.length (fun i c => ∃ h : i < n.kids.length, NodeIs w P n.kids[i] c) := by
  obtain ⟨nm, ats, tx, ks⟩ := n
  rw [NodeIs]
theorem NodeIs.frame {w w' : World} {P Q : FP} (hs : Same P w w') (hq : ∀ b, P b → Q b) : ∀ (n : Node) (cs : List Value), NodeIs w P n cs → NodeIs w' Q n cs
  | ⟨nm, ats, tx, ks⟩, cs => by
    rw [NodeIs_def, NodeIs_def]
    rintro ⟨va, vk, rfl, h1, h2⟩
    exact ⟨va, vk, rfl, h1.frame hs hq, h2.imp hs hq (fun i c hi ⟨h, hx⟩ => ⟨h, NodeIs.frame hs hq ks[i] c hx⟩)⟩
termination_by n => SizeOf.sizeOf n
decreasing_by
  have h' : i < ks.length := h
  have := List.sizeOf_lt_of_mem (List.getElem_mem h')
  simp; omega
theorem NodeIs.bound {w : World} {P : FP} : ∀ (n : Node) (cs : List Value), NodeIs w P n cs → NodeIs w (fun b => P b ∧ b < w.heap.size) n cs
  | ⟨nm, ats, tx, ks⟩, cs => by
    rw [NodeIs_def, NodeIs_def]
    rintro ⟨va, vk, rfl, h1, h2⟩
    exact ⟨va, vk, rfl, h1.bound, h2.bound (by decide) (fun i c hi ⟨h, hx⟩ => ⟨h, NodeIs.bound ks[i] c hx⟩)⟩
termination_by n => SizeOf.sizeOf n
decreasing_by
  have h' : i < ks.length := h
  have := List.sizeOf_lt_of_mem (List.getElem_mem h')
  simp; omega
instance : Rep Node where
  pos := by decide
  bound h := NodeIs.bound _ _ h
  sz := 4
  Is := NodeIs
  len := by intro _ _ _ _ h; rw [NodeIs_def] at h; obtain ⟨va, vk, rfl, _⟩ := h; rfl
  one := by
    intro w P n cs h u hu
    rw [NodeIs_def] at h
    obtain ⟨va, vk, rfl, h1, h2⟩ := h
    obtain ⟨A, c, rfl, _⟩ := h2
    have := h1.oneCell
    simp at hu; rcases hu with rfl | rfl | rfl | rfl <;> first | rfl | assumption
  frame hs hq h := NodeIs.frame hs hq _ _ h
theorem Node.open_ {w : World} {P : FP} {n : Node} {cs : List Value} (h : Rep.Is w P n cs) : ∃ va vk, cs = [.string n.name, va, .string n.text, vk] ∧ SliceIs w P va n.attrs ∧ SliceIs w P vk n.kids := by
  have h : NodeIs w P n cs := h
  rw [NodeIs_def] at h
  exact h
theorem Node.mk_ {w : World} {P : FP} {n : Node} {va vk : Value} (h1 : SliceIs w P va n.attrs) (h2 : SliceIs w P vk n.kids) : Rep.Is w P n [.string n.name, va, .string n.text, vk] := by
  show NodeIs w P n _
  rw [NodeIs_def]
  exact ⟨va, vk, rfl, h1, h2⟩
end Go.Proofs.Ytidicfdcjoggpaa
