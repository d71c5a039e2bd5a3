/-
  A built tree's text is all texts of the tokens.
-/
import Derived.Test.YtidicfdcjoggpaaDomPure
import Derived.Test.YtidicfdcjoggpaaDomTextOf
namespace Go.Proofs.Ytidicfdcjoggpaa
open Go.RowKit
set_option linter.unusedVariables false
set_option linter.unusedSimpArgs false
def stText : List El → ByteArray
  | [] => ByteArray.empty
  | e :: s => stText s ++ nText e.kids
/-- What stands last, if it is a text, has nothing within. -/
def okE (e : El) : Prop := ∀ n, e.kids.getLast? = some n → n.name = ByteArray.empty → n.kids = []
structure TxtInv (st : List El) : Prop where
  ok : ∀ e ∈ st, okE e
  nm : ∀ e ∈ st.dropLast, e.name ≠ ByteArray.empty
theorem okE_add {e : El} {n : Node} (h : n.name ≠ ByteArray.empty ∨ n.kids = []) : okE (e.add n) := by
  intro m hm hn
  simp only [El.add, List.getLast?_concat, Option.some.injEq] at hm
  subst hm
  rcases h with h | h
  · exact absurd hn h
  · exact h
theorem nText_one (n : Node) : nText [n] = n.text ++ nText n.kids := by rw [nText_cons, nText_nil, ByteArray.append_empty]
theorem stText_shutP : ∀ s : List El, stText (shutP s) = stText s
  | t :: u :: s => by
    simp only [shutP, stText, El.add, nText_append, nText_one, El.node, ByteArray.empty_append, ByteArray.append_assoc]
  | [_] => rfl
  | [] => rfl
theorem TxtInv.shutP : ∀ {s : List El}, TxtInv s → TxtInv (shutP s)
  | t :: u :: s, h => by
    refine ⟨fun e he => ?_, fun e he => ?_⟩
    · simp only [Proofs.Ytidicfdcjoggpaa.shutP, List.mem_cons] at he
      rcases he with rfl | he
      · exact okE_add (.inl (h.nm t (by simp)))
      · exact h.ok e (by simp [he])
    · cases s with
      | nil => simp [Proofs.Ytidicfdcjoggpaa.shutP] at he
      | cons a r =>
        simp only [Proofs.Ytidicfdcjoggpaa.shutP, List.dropLast_cons_cons, List.mem_cons] at he
        rcases he with rfl | he
        · exact h.nm u (by simp)
        · exact h.nm e (by simp [he])
  | [_], h => h
  | [], h => h
theorem stText_shutN : ∀ (n : Nat) (s : List El), stText (shutN n s) = stText s
  | 0, _ => rfl
  | n + 1, s => by rw [shutN, stText_shutN n, stText_shutP]
theorem TxtInv.shutN : ∀ (n : Nat) {s : List El}, TxtInv s → TxtInv (shutN n s)
  | 0, _, h => h
  | n + 1, _, h => TxtInv.shutN n h.shutP
theorem stText_closeP (name : Str) (s : List El) : stText (closeP name s) = stText s := by
  unfold closeP; split
  · rfl
  · exact stText_shutN _ _
theorem TxtInv.closeP (name : Str) {s : List El} (h : TxtInv s) : TxtInv (closeP name s) := by
  unfold Proofs.Ytidicfdcjoggpaa.closeP; split
  · exact h
  · exact h.shutN _
theorem stText_afters (name : Str) (s : List El) : stText (afterLi name (afterBlock name s)) = stText s := by
  have h1 : stText (afterBlock name s) = stText s := by unfold afterBlock; split; exact stText_closeP _ _; rfl
  unfold afterLi; split
  · rw [stText_closeP, h1]
  · exact h1
theorem TxtInv.afters (name : Str) {s : List El} (h : TxtInv s) : TxtInv (afterLi name (afterBlock name s)) := by
  have h1 : TxtInv (afterBlock name s) := by unfold afterBlock; split; exact h.closeP _; exact h
  unfold afterLi; split
  · exact h1.closeP _
  · exact h1
theorem afters_pos (name : Str) {s : List El} (h : 0 < s.length) : 0 < (afterLi name (afterBlock name s)).length := afterLi_pos _ _ (afterBlock_pos _ _ h)
theorem stText_startP (name : Str) (attrs : List Attr) (s : List El) : stText (startP name attrs s) = stText s := by
  rw [← stText_afters name s]
  unfold startP laid
  generalize afterLi name (afterBlock name s) = s'
  split
  · cases s' with
    | nil => rfl
    | cons t r => simp only [stText, El.add, nText_append, nText_one, nText_nil, ByteArray.append_empty]
  · simp only [stText, nText_nil, ByteArray.append_empty]
theorem TxtInv.startP (name : Str) (attrs : List Attr) {s : List El} (h : TxtInv s) (hp : 0 < s.length) (hn : name ≠ ByteArray.empty) : TxtInv (startP name attrs s) := by
  have h1 := h.afters name
  have h2 := afters_pos name hp
  unfold Proofs.Ytidicfdcjoggpaa.startP laid
  generalize afterLi name (afterBlock name s) = s' at h1 h2
  split
  · cases s' with
    | nil => exact h1
    | cons t r =>
      refine ⟨fun e he => ?_, fun e he => ?_⟩
      · simp only [List.mem_cons] at he
        rcases he with rfl | he
        · exact okE_add (.inr rfl)
        · exact h1.ok e (by simp [he])
      · cases r with
        | nil => simp at he
        | cons a r =>
          simp only [List.dropLast_cons_cons, List.mem_cons] at he
          rcases he with rfl | he
          · exact h1.nm t (by simp)
          · exact h1.nm e (by simp [he])
  · refine ⟨fun e he => ?_, fun e he => ?_⟩
    · simp only [List.mem_cons] at he
      rcases he with rfl | he
      · intro n hm; simp at hm
      · exact h1.ok e he
    · cases s' with
      | nil => simp at h2
      | cons a r =>
        simp only [List.dropLast_cons_cons, List.mem_cons] at he
        rcases he with rfl | he
        · exact hn
        · exact h1.nm e he
theorem last_cases {e : El} (h : lastText e = true) : ∃ l x, e.kids = l ++ [x] ∧ x.name = ByteArray.empty := by
  unfold lastText at h
  cases hg : e.kids.getLast? with
  | none => rw [hg] at h; cases h
  | some x =>
    rw [hg] at h
    obtain ⟨l, hl⟩ := List.getLast?_eq_some_iff.1 hg
    exact ⟨l, x, hl, of_decide_eq_true h⟩
theorem stText_textP (s : Str) (a : El) (r : List El) (h : TxtInv (a :: r)) : stText (textP s (a :: r)) = stText (a :: r) ++ s := by
  rw [textP]
  split
  · rename_i hl
    obtain ⟨l, x, hk, hx⟩ := last_cases hl
    have hxk : x.kids = [] := h.ok a (by simp) x (by rw [hk]; simp) hx
    simp only [stText, hk, List.dropLast_concat, List.getLast?_concat, Option.map_some, Option.toList_some, nText_append, nText_one, Node.more, hxk, nText_nil, ByteArray.append_empty, ByteArray.append_assoc]
  · simp only [stText, El.add, nText_append, nText_one, textNode, nText_nil, ByteArray.append_empty, ByteArray.append_assoc]
theorem TxtInv.textP (s : Str) (a : El) (r : List El) (h : TxtInv (a :: r)) : TxtInv (textP s (a :: r)) := by
  refine ⟨fun e he => ?_, fun e he => ?_⟩
  · simp only [Proofs.Ytidicfdcjoggpaa.textP, List.mem_cons] at he
    rcases he with rfl | he
    · split
      · rename_i hl
        obtain ⟨l, x, hk, hx⟩ := last_cases hl
        have hxk : x.kids = [] := h.ok a (by simp) x (by rw [hk]; simp) hx
        intro n hn _
        simp only [hk, List.dropLast_concat, List.getLast?_concat, Option.map_some, Option.toList_some, Option.some.injEq] at hn
        subst hn
        exact hxk
      · exact okE_add (.inr rfl)
    · exact h.ok e (by simp [he])
  · cases r with
    | nil => simp [Proofs.Ytidicfdcjoggpaa.textP] at he
    | cons b r =>
      simp only [Proofs.Ytidicfdcjoggpaa.textP, List.dropLast_cons_cons, List.mem_cons] at he
      rcases he with rfl | he
      · have := h.nm a (by simp)
        split
        · exact this
        · exact this
      · exact h.nm e (by simp [he])
def tokText (t : Token) : Str := if t.kind = 1 then t.text else ByteArray.empty
def toksText : List Token → Str
  | [] => ByteArray.empty
  | t :: ts => tokText t ++ toksText ts
theorem bP_ne : bP ≠ ByteArray.empty := by decide
theorem bBr_ne : bBr ≠ ByteArray.empty := by decide
theorem stepS_pos {t : Token} {st : List El} {many : Int} (h : 0 < st.length) : 0 < (stepS t st many).st.length := by
  unfold stepS
  split
  · unfold textS
    split
    · exact h
    · cases st with
      | nil => simp at h
      | cons a r => simp only; split <;> simp [textP]
  · split
    · exact startP_pos _ _ _ h
    · split
      · unfold endS
        split
        · exact closeP_pos _ _ h
        · split
          · exact closeP_pos _ _ (startP_pos _ _ _ h)
          · split
            · exact startP_pos bBr [] st h
            · exact h
      · exact h
theorem TxtInv.stepS {t : Token} {st : List El} {many : Int} (h : TxtInv st) (hp : 0 < st.length) (hn : t.kind = 2 → t.name ≠ ByteArray.empty) : TxtInv (stepS t st many).st ∧ stText (stepS t st many).st = stText st ++ tokText t := by
  unfold Proofs.Ytidicfdcjoggpaa.stepS tokText
  split
  · unfold textS
    split
    · rename_i he; exact ⟨h, by rw [he, ByteArray.append_empty]⟩
    · cases st with
      | nil => simp at hp
      | cons a r => simp only; split <;> exact ⟨h.textP _ a r, stText_textP _ a r h⟩
  · rw [ByteArray.append_empty]
    split
    · rename_i h2
      exact ⟨h.startP _ _ hp (hn h2), stText_startP _ _ _⟩
    · split
      · unfold endS
        split
        · exact ⟨h.closeP _, stText_closeP _ _⟩
        · split
          · exact ⟨(h.startP bP [] hp bP_ne).closeP _, by rw [stText_closeP, stText_startP]⟩
          · split
            · exact ⟨h.startP bBr [] hp bBr_ne, stText_startP bBr [] st⟩
            · exact ⟨h, rfl⟩
      · exact ⟨h, rfl⟩
theorem buildL_text : ∀ (l : List Token) (st : List El) (many : Int), TxtInv st → 0 < st.length → (∀ t ∈ l, t.kind = 2 → t.name ≠ ByteArray.empty) → ∀ r, buildL l st many = some r → 0 < r.length ∧ stText r = stText st ++ toksText l
  | [], st, many, _, hp, _, r, h => by cases h; exact ⟨hp, by rw [toksText, ByteArray.append_empty]⟩
  | t :: ts, st, many, hi, hp, hn, r, h => by
    rw [buildL] at h
    split at h
    · cases h
    · obtain ⟨h1, h2⟩ := hi.stepS (many := many) hp (hn t (by simp))
      obtain ⟨h3, h4⟩ := buildL_text ts _ _ h1 (stepS_pos hp) (fun t ht => hn t (by simp [ht])) r h
      exact ⟨h3, by rw [h4, h2, toksText, ByteArray.append_assoc]⟩
theorem shutN_one : ∀ (n : Nat) (s : List El), s.length = n + 1 → ∃ e, shutN n s = [e]
  | 0, [e], _ => ⟨e, rfl⟩
  | n + 1, t :: u :: s, h => shutN_one n _ (by simp [shutP] at h ⊢; omega)
theorem root_ok : TxtInv [rootEl] := ⟨fun e he => by simp at he; subst he; intro n hm; simp [rootEl] at hm, fun e he => by simp at he⟩
theorem build_text (l : List Token) (ns : List Node) (hn : ∀ t ∈ l, t.kind = 2 → t.name ≠ ByteArray.empty) (h : build l = some ns) : nText ns = toksText l := by
  unfold build at h
  rw [Option.map_eq_some_iff] at h
  obtain ⟨st, h1, rfl⟩ := h
  obtain ⟨h2, h3⟩ := buildL_text l _ _ root_ok (by simp) hn st h1
  obtain ⟨e, he⟩ := shutN_one (st.length - 1) st (by omega)
  have h4 := stText_shutN (st.length - 1) st
  rw [he] at h4 ⊢
  simp only [stText, ByteArray.empty_append] at h4
  show nText e.kids = _
  rw [h4, h3]
  simp [stText, rootEl, nText_nil]
end Go.Proofs.Ytidicfdcjoggpaa
