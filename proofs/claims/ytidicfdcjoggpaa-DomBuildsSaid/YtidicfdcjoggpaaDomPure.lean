/-
  What the tree builder of package dom comes to, as a function of tokens; what stays bounded on the way.
-/
import Derived.Test.YtidicfdcjoggpaaDomEnd
namespace Go.Proofs.Ytidicfdcjoggpaa
open Go.RowKit
set_option linter.unusedVariables false
set_option linter.unusedSimpArgs false
def stepS (t : Token) (st : List El) (many : Int) : St :=
  if t.kind = 1 then textS t.text st many
  else if t.kind = 2 then ⟨startP t.name t.attrs st, many + 1, overP (startP t.name t.attrs st) (many + 1)⟩
  else if t.kind = 3 then endS t.name st many
  else ⟨st, many, false⟩
def buildL : List Token → List El → Int → Option (List El)
  | [], st, _ => some st
  | t :: ts, st, many => if (stepS t st many).over = true then none else buildL ts (stepS t st many).st (stepS t st many).many
def rootEl : El := ⟨ByteArray.empty, [], []⟩
def rootKids : List El → List Node
  | [] => []
  | e :: _ => e.kids
def build (l : List Token) : Option (List Node) := (buildL l [rootEl] 0).map fun st => rootKids (shutN (st.length - 1) st)
/-- What holds on the way: S is how many bytes of text came so far. -/
structure Inv (st : List El) (many : Int) (S : Nat) : Prop where
  pos : 0 < st.length
  lo : 0 ≤ many
  hi : many ≤ 2000
  siz : (szs st : Int) ≤ many + 1
  txt : ∀ e ∈ st, lastSize e ≤ S
theorem lastSize_node (nm : Str) (ats : List Attr) (ks : List Node) (e : El) : lastSize ⟨nm, ats, ks ++ [e.node]⟩ = 0 := by simp [lastSize, El.node]
theorem shutP_txt (S : Nat) : ∀ s : List El, (∀ e ∈ s, lastSize e ≤ S) → ∀ e ∈ shutP s, lastSize e ≤ S
  | t :: u :: s, h => by
    intro e he
    simp only [shutP, List.mem_cons] at he
    rcases he with rfl | he
    · have := lastSize_node u.name u.attrs u.kids t
      show lastSize ⟨u.name, u.attrs, u.kids ++ [t.node]⟩ ≤ S
      omega
    · exact h e (by simp [he])
  | [_], h => h
  | [], h => h
theorem shutN_txt (S : Nat) : ∀ (n : Nat) (s : List El), (∀ e ∈ s, lastSize e ≤ S) → ∀ e ∈ shutN n s, lastSize e ≤ S
  | 0, _, h => h
  | n + 1, s, h => shutN_txt S n _ (shutP_txt S s h)
theorem closeP_txt (S : Nat) (name : Str) (s : List El) (h : ∀ e ∈ s, lastSize e ≤ S) : ∀ e ∈ closeP name s, lastSize e ≤ S := by
  unfold closeP; split
  · exact h
  · exact shutN_txt S _ _ h
theorem startP_txt (S : Nat) (name : Str) (attrs : List Attr) (s : List El) (h : ∀ e ∈ s, lastSize e ≤ S) : ∀ e ∈ startP name attrs s, lastSize e ≤ S := by
  have h1 : ∀ e ∈ afterBlock name s, lastSize e ≤ S := by unfold afterBlock; split; exact closeP_txt S _ _ h; exact h
  have h2 : ∀ e ∈ afterLi name (afterBlock name s), lastSize e ≤ S := by unfold afterLi; split; exact closeP_txt S _ _ h1; exact h1
  unfold startP laid
  split
  · cases e : afterLi name (afterBlock name s) with
    | nil => simp
    | cons a b =>
      rw [e] at h2
      intro x hx
      simp only [List.mem_cons] at hx
      rcases hx with rfl | hx
      · simp [lastSize, El.add]
      · exact h2 x (by simp [hx])
  · intro x hx
    simp only [List.mem_cons] at hx
    rcases hx with rfl | hx
    · simp [lastSize]
    · exact h2 x hx
theorem overP_false {st : List El} {many : Int} (h : overP st many = false) : many ≤ 2000 := by
  simp [overP] at h
  omega
theorem Inv.step {t : Token} {st : List El} {many : Int} {S : Nat} (h : Inv st many S) (ho : (stepS t st many).over = false) : Inv (stepS t st many).st (stepS t st many).many (S + t.text.size) := by
  have up : ∀ e ∈ st, lastSize e ≤ S + t.text.size := fun e he => Nat.le_trans (h.txt e he) (Nat.le_add_right _ _)
  obtain ⟨h1, h2, h3, h4, h5⟩ := h
  revert ho
  unfold stepS
  split
  · unfold textS
    split
    · intro _; exact ⟨h1, h2, h3, h4, up⟩
    · cases st with
      | nil => simp at h1
      | cons a r =>
        simp only
        have hsz : szs (textP t.text (a :: r)) ≤ szs (a :: r) + 1 := by
          simp only [textP]
          split
          · rename_i hl
            have : a.kids ≠ [] := by intro e; simp [lastText, e] at hl
            obtain ⟨l, x, e⟩ : ∃ l x, a.kids = l ++ [x] := by rcases List.eq_nil_or_concat a.kids with h | ⟨l, x, h⟩; exact absurd h this; exact ⟨l, x, by simpa using h⟩
            simp [szs, e]
          · simp [szs, El.add]; omega
        have htx : ∀ e ∈ textP t.text (a :: r), lastSize e ≤ S + t.text.size := by
          intro e he
          simp only [textP, List.mem_cons] at he
          rcases he with he | he
          · subst he
            split
            · rename_i hl
              have : a.kids ≠ [] := by intro e; simp [lastText, e] at hl
              obtain ⟨l, x, e⟩ : ∃ l x, a.kids = l ++ [x] := by rcases List.eq_nil_or_concat a.kids with h | ⟨l, x, h⟩; exact absurd h this; exact ⟨l, x, by simpa using h⟩
              have := h5 a (by simp)
              simp [lastSize, e, Node.more] at this ⊢
              omega
            · simp [lastSize, El.add, textNode]
          · exact up e (by simp [he])
        split
        · rename_i hl
          intro _
          refine ⟨by simp [textP], h2, h3, ?_, htx⟩
          have : szs (textP t.text (a :: r)) = szs (a :: r) := by
            simp only [textP, if_pos hl]
            have : a.kids ≠ [] := by intro e; simp [lastText, e] at hl
            obtain ⟨l, x, e⟩ : ∃ l x, a.kids = l ++ [x] := by rcases List.eq_nil_or_concat a.kids with h | ⟨l, x, h⟩; exact absurd h this; exact ⟨l, x, by simpa using h⟩
            simp [szs, e]
          simp only; omega
        · intro ho
          have := overP_false ho
          exact ⟨by simp [textP], by simp only; omega, this, by simp only; omega, htx⟩
  · split
    · intro ho
      have := overP_false ho
      have hs := startP_szs t.name t.attrs st
      exact ⟨startP_pos t.name t.attrs st h1, by simp only; omega, this, by simp only; omega, startP_txt _ t.name t.attrs st up⟩
    · split
      · unfold endS
        split
        · intro _; exact ⟨closeP_pos _ _ h1, h2, h3, by have := closeP_szs t.name st; simp only; omega, closeP_txt _ _ _ up⟩
        · split
          · intro ho
            have := overP_false ho
            have hs := startP_szs bP [] st
            have hc := closeP_szs bP (startP bP [] st)
            exact ⟨closeP_pos bP _ (startP_pos bP [] st h1), by simp only; omega, this, by simp only; omega, closeP_txt _ bP _ (startP_txt _ bP [] st up)⟩
          · split
            · intro ho
              have := overP_false ho
              have hs := startP_szs bBr [] st
              exact ⟨startP_pos bBr [] st h1, by simp only; omega, this, by simp only; omega, startP_txt _ bBr [] st up⟩
            · intro _; exact ⟨h1, h2, h3, h4, up⟩
      · intro _; exact ⟨h1, h2, h3, h4, up⟩
end Go.Proofs.Ytidicfdcjoggpaa
