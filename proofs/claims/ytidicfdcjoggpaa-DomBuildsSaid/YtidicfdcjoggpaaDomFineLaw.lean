/-
  A tree that was built is fine: no block within a p, no li within a li, nothing within a void element, no empty text, none side by side; no more than 2000 nodes, none deeper than 65.
-/
import Derived.Test.YtidicfdcjoggpaaDomFineDef
import Derived.Test.YtidicfdcjoggpaaDomTextLaw
namespace Go.Proofs.Ytidicfdcjoggpaa
open Go.RowKit
set_option linter.unusedVariables false
set_option linter.unusedSimpArgs false
def lastE (prev : Bool) : List Node → Bool
  | [] => prev
  | n :: r => lastE (decide (n.name = ByteArray.empty)) r
theorem lastE_snoc : ∀ (l : List Node) (prev : Bool) (x : Node), lastE prev (l ++ [x]) = decide (x.name = ByteArray.empty)
  | [], _, _ => rfl
  | n :: r, _, x => lastE_snoc r _ x
theorem FineL_snoc : ∀ (l : List Node) (p li prev : Bool) (n : Node), FineL p li prev (l ++ [n]) ↔ FineL p li prev l ∧ NodeFine p li (lastE prev l) n
  | [], p, li, prev, n => by
    rw [List.nil_append, FineL_cons]
    simp only [FineL_nil, lastE, and_true, true_and]
  | a :: r, p, li, prev, n => by
    rw [List.cons_append, FineL_cons, FineL_cons, FineL_snoc r, and_assoc, lastE]
theorem lastE_text (e : El) : lastE false e.kids = lastText e := by
  unfold lastText
  rcases List.eq_nil_or_concat e.kids with h | ⟨l, x, h⟩
  · rw [h]; rfl
  · rw [List.concat_eq_append] at h
    rw [h, lastE_snoc, List.getLast?_concat]
def ctxP : List El → Bool
  | [] => false
  | e :: s => ctxP s || decide (e.name = bP)
def ctxLi : List El → Bool
  | [] => false
  | e :: s => inLi (ctxLi s) e.name
def elOk (e : El) (s : List El) : Prop := e.name ≠ ByteArray.empty ∧ (ctxP s = true → isBlock e.name = false) ∧ (ctxLi s = true → e.name ≠ bLi) ∧ isVoid e.name = false
/-- A stack whose elements are fine, each in its place. -/
def SF : List El → Prop
  | [] => True
  | e :: s => (s = [] → e.name = ByteArray.empty) ∧ (s ≠ [] → elOk e s) ∧ FineL (ctxP (e :: s)) (ctxLi (e :: s)) false e.kids ∧ nDeep e.kids + s.length ≤ 65 ∧ SF s
theorem SF.top {e : El} {s : List El} (h : SF (e :: s)) {ks : List Node} (hf : FineL (ctxP (e :: s)) (ctxLi (e :: s)) false ks) (hd : nDeep ks + s.length ≤ 65) : SF (⟨e.name, e.attrs, ks⟩ :: s) :=
  ⟨h.1, h.2.1, hf, hd, h.2.2.2.2⟩
theorem SF.shutP : ∀ {s : List El}, SF s → SF (shutP s)
  | t :: u :: s, h => by
    obtain ⟨_, h2, h3, h4, h5⟩ := h
    obtain ⟨k1, k2, k3, k4⟩ := h2 (by simp)
    obtain ⟨g1, g2, g3, g4, g5⟩ := h5
    refine ⟨g1, g2, (FineL_snoc ..).2 ⟨g3, fun hn => absurd hn k1, fun _ => ⟨rfl, k2, k3, fun hv => ?_, h3⟩⟩, ?_, g5⟩
    · have : isVoid t.name = true := hv
      rw [k4] at this; cases this
    · show nDeep (u.kids ++ [t.node]) + s.length ≤ 65
      rw [nDeep_append, nDeep_cons, nDeep_nil, if_neg (show ¬ t.node.name = ByteArray.empty from k1)]
      simp only [List.length_cons] at h4
      show max (nDeep u.kids) (max (1 + nDeep t.kids) 0) + s.length ≤ 65
      omega
  | [_], h => h
  | [], h => h
theorem SF.shutN : ∀ (n : Nat) {s : List El}, SF s → SF (shutN n s)
  | 0, _, h => h
  | n + 1, _, h => SF.shutN n h.shutP
theorem SF.closeP (name : Str) {s : List El} (h : SF s) : SF (closeP name s) := by
  unfold Proofs.Ytidicfdcjoggpaa.closeP; split
  · exact h
  · exact h.shutN _
theorem ctxP_shutP : ∀ {s : List El}, ctxP s = false → ctxP (shutP s) = false
  | t :: u :: s, h => by
    simp only [ctxP, Bool.or_eq_false_iff] at h
    show ctxP (u :: s) = false
    simp only [ctxP, h, Bool.or_self]
  | [_], h => h
  | [], h => h
theorem ctxP_shutN : ∀ (n : Nat) {s : List El}, ctxP s = false → ctxP (shutN n s) = false
  | 0, _, h => h
  | n + 1, _, h => ctxP_shutN n (ctxP_shutP h)
theorem ctxP_close (name : Str) {s : List El} (h : ctxP s = false) : ctxP (closeP name s) = false := by
  unfold closeP; split
  · exact h
  · exact ctxP_shutN _ h
theorem innerP_top (names : List Str) (u v : El) (s : List El) (h : u.name = v.name) : innerP names (u :: s) = innerP names (v :: s) := by
  cases s with
  | nil => rfl
  | cons a r => simp only [innerP, h]
theorem closeP_skip {name : Str} {t u : El} {s : List El} (ht : t.name ≠ name) (hi : innerP [name] (u :: s) ≠ 0) : closeP name (t :: u :: s) = closeP name (shutP (t :: u :: s)) := by
  have h1 : innerP [name] (t :: u :: s) = innerP [name] (u :: s) := by simp [innerP, ht]
  have h2 : innerP [name] (shutP (t :: u :: s)) = innerP [name] (u :: s) := innerP_top _ (u.add t.node) u s rfl
  have h3 := innerP_le [name] (u :: s)
  unfold closeP
  rw [h1, h2, if_neg hi, if_neg hi]
  have e : (t :: u :: s).length - innerP [name] (u :: s) = ((shutP (t :: u :: s)).length - innerP [name] (u :: s)) + 1 := by
    simp only [shutP, List.length_cons] at h3 ⊢
    omega
  rw [e, shutN]
theorem closeP_here {name : Str} {t u : El} {s : List El} (ht : t.name = name) : closeP name (t :: u :: s) = shutP (t :: u :: s) := by
  have h1 : innerP [name] (t :: u :: s) = (u :: s).length := by simp [innerP, ht]
  unfold closeP
  rw [h1, if_neg (by simp), show (t :: u :: s).length - (u :: s).length = 1 by simp only [List.length_cons]; omega]
  rfl
theorem ctxP_none : ∀ {s : List El}, SF s → innerP [bP] s = 0 → ctxP s = false
  | [], _, _ => rfl
  | [e], h, _ => by
    have := h.1 rfl
    simp only [ctxP, this, Bool.false_or]
    exact decide_eq_false (fun e => bP_ne e.symm)
  | t :: u :: s, h, hi => by
    simp only [innerP] at hi
    split at hi
    · simp at hi
    · rename_i hn
      have := ctxP_none h.2.2.2.2 hi
      show (ctxP (u :: s) || decide (t.name = bP)) = false
      rw [this, decide_eq_false (by simpa using hn)]; rfl
theorem block_p : isBlock bP = true := by decide
theorem ctxP_closed : ∀ (n : Nat) {s : List El}, s.length = n → SF s → ctxP (closeP bP s) = false
  | 0, [], _, _ => rfl
  | 1, [e], _, h => by
    have : closeP bP [e] = [e] := rfl
    rw [this]; exact ctxP_none h rfl
  | n + 2, t :: u :: s, hl, h => by
    by_cases ht : t.name = bP
    · rw [closeP_here ht]
      cases hc : ctxP (u :: s) with
      | false => exact hc
      | true => have := (h.2.1 (by simp)).2.1 hc; rw [ht, block_p] at this; cases this
    · by_cases hi : innerP [bP] (u :: s) = 0
      · have h1 : innerP [bP] (t :: u :: s) = 0 := by simp [innerP, ht]; exact hi
        have : closeP bP (t :: u :: s) = t :: u :: s := by unfold closeP; rw [if_pos h1]
        rw [this]; exact ctxP_none h h1
      · rw [closeP_skip ht hi]
        exact ctxP_closed (n + 1) (by simp [shutP] at hl ⊢; omega) h.shutP
theorem li_names : bUl ≠ bLi ∧ bOl ≠ bLi ∧ bLi ≠ ByteArray.empty ∧ bLi ≠ bUl ∧ bLi ≠ bOl := by decide
theorem ctxLi_none : ∀ {s : List El}, SF s → innerP [bLi] s = 0 → ctxLi s = false
  | [], _, _ => rfl
  | [e], h, _ => by
    have := h.1 rfl
    simp only [ctxLi, inLi, this, Bool.false_and, Bool.false_or]
    exact decide_eq_false (fun e => li_names.2.2.1 e.symm)
  | t :: u :: s, h, hi => by
    simp only [innerP] at hi
    split at hi
    · simp at hi
    · rename_i hn
      have := ctxLi_none h.2.2.2.2 hi
      show inLi (ctxLi (u :: s)) t.name = false
      unfold inLi
      rw [this, decide_eq_false (p := t.name = bLi) (by simpa using hn)]; rfl
theorem ctxLi_closed : ∀ (n : Nat) {s : List El}, s.length = n → SF s → ctxLi s = true → ctxLi (closeP bLi s) = false
  | 0, [], _, _, h => by cases h
  | 1, [e], _, h, hc => by rw [ctxLi_none h rfl] at hc; cases hc
  | n + 2, t :: u :: s, hl, h, hc => by
    by_cases ht : t.name = bLi
    · rw [closeP_here ht]
      cases hc : ctxLi (u :: s) with
      | false => exact hc
      | true => exact absurd ht ((h.2.1 (by simp)).2.2.1 hc)
    · have hu : ctxLi (u :: s) = true := by
        have : inLi (ctxLi (u :: s)) t.name = true := hc
        unfold inLi at this
        rw [decide_eq_false (p := t.name = bLi) ht, Bool.or_false, Bool.and_eq_true] at this
        exact this.1
      by_cases hi : innerP [bLi] (u :: s) = 0
      · rw [ctxLi_none h.2.2.2.2 hi] at hu; cases hu
      · rw [closeP_skip ht hi]
        exact ctxLi_closed (n + 1) (by simp [shutP] at hl ⊢; omega) h.shutP hu
theorem nameAt_top (t : El) (s : List El) : nameAt (t :: s) s.length = t.name := by
  unfold nameAt
  rw [List.reverse_cons, List.getElem?_append_right (by simp)]
  simp
theorem nameAt_low (t : El) (s : List El) (i : Nat) (h : i < s.length) : nameAt (t :: s) i = nameAt s i := by
  unfold nameAt
  rw [List.reverse_cons, List.getElem?_append_left (by simpa using h)]
/-- Whether a li is the innermost one of li, ul, ol: the two ways to say it. -/
theorem liTop : ∀ {s : List El}, SF s → (decide (0 < innerP [bLi, bUl, bOl] s) && decide (nameAt s (innerP [bLi, bUl, bOl] s) = bLi)) = ctxLi s
  | [], _ => rfl
  | [e], h => by
    rw [ctxLi_none h rfl]
    rfl
  | t :: u :: s, h => by
    show _ = inLi (ctxLi (u :: s)) t.name
    simp only [innerP]
    split
    · rename_i hm
      rw [nameAt_top]
      unfold inLi
      simp only [List.mem_cons, List.not_mem_nil, or_false] at hm
      rcases hm with hm | hm | hm <;> simp [hm, li_names]
    · rename_i hn
      simp only [List.mem_cons, List.not_mem_nil, or_false, not_or] at hn
      have h1 := innerP_le [bLi, bUl, bOl] (u :: s)
      rw [nameAt_low t (u :: s) _ (by simp only [List.length_cons] at h1 ⊢; omega), liTop h.2.2.2.2]
      unfold inLi
      simp [hn]
theorem closeP_len (name : Str) : ∀ s : List El, (closeP name s).length ≤ s.length := by
  have h : ∀ (n : Nat) (s : List El), (shutN n s).length ≤ s.length := by
    intro n
    induction n with
    | zero => intro s; exact Nat.le_refl _
    | succ n ih => intro s; rw [shutN]; have := ih (shutP s); have := shut_len s; split at this <;> omega
  intro s
  unfold closeP
  split
  · exact Nat.le_refl _
  · exact h _ _
/-- Behind what a beginning element closes. -/
structure Ready (name : Str) (s : List El) : Prop where
  sf : SF s
  p : isBlock name = true → ctxP s = false
  li : name = bLi → ctxLi s = false
theorem ready (name : Str) {s : List El} (h : SF s) : Ready name (afterLi name (afterBlock name s)) := by
  have h1 : SF (afterBlock name s) := by unfold afterBlock; split; exact h.closeP _; exact h
  have h2 : isBlock name = true → ctxP (afterBlock name s) = false := fun hb => by unfold afterBlock; rw [if_pos hb]; exact ctxP_closed _ rfl h
  generalize afterBlock name s = s1 at h1 h2
  have hl : liOver name s1 = (decide (name = bLi) && ctxLi s1) := by unfold liOver; rw [liTop h1]
  unfold afterLi
  split
  · rename_i ho
    rw [hl, Bool.and_eq_true] at ho
    exact ⟨h1.closeP _, fun hb => ctxP_close _ (h2 hb), fun _ => ctxLi_closed _ rfl h1 ho.2⟩
  · rename_i ho
    refine ⟨h1, h2, fun hn => ?_⟩
    rw [hl, decide_eq_true hn, Bool.true_and] at ho
    simpa using ho
theorem afters_len (name : Str) (s : List El) : (afterLi name (afterBlock name s)).length ≤ s.length := by
  have h1 : (afterBlock name s).length ≤ s.length := by unfold afterBlock; split; exact closeP_len _ _; exact Nat.le_refl _
  unfold afterLi
  split
  · exact Nat.le_trans (closeP_len _ _) h1
  · exact h1
theorem SF.startP (name : Str) (attrs : List Attr) {s : List El} (h : SF s) (hp : 0 < s.length) (hl : s.length ≤ 65) (hn : name ≠ ByteArray.empty) : SF (startP name attrs s) := by
  obtain ⟨r1, r2, r3⟩ := ready name h
  have h1 := afters_len name s
  have h2 := afters_pos name hp
  have c1 : ∀ s', (isBlock name = true → ctxP s' = false) → ctxP s' = true → isBlock name = false := fun s' h1 h2 => by
    cases hb : isBlock name with
    | false => rfl
    | true => rw [h1 hb] at h2; cases h2
  have c2 : ∀ s', (name = bLi → ctxLi s' = false) → ctxLi s' = true → name ≠ bLi := fun s' h1 h2 e => by rw [h1 e] at h2; cases h2
  unfold Proofs.Ytidicfdcjoggpaa.startP laid
  generalize afterLi name (afterBlock name s) = s' at r1 r2 r3 h1 h2
  split
  · cases s' with
    | nil => simp at h2
    | cons t r =>
      obtain ⟨g1, g2, g3, g4, g5⟩ := r1
      refine ⟨g1, g2, (FineL_snoc ..).2 ⟨g3, fun e => absurd e hn, fun _ => ⟨rfl, c1 _ r2, c2 _ r3, fun _ => rfl, FineL_nil _ _ _⟩⟩, ?_, g5⟩
      show nDeep (t.kids ++ [_]) + r.length ≤ 65
      rw [nDeep_append, nDeep_cons, nDeep_nil]
      simp only [if_neg hn, nDeep_nil]
      simp only [List.length_cons] at h1
      omega
  · rename_i hv
    refine ⟨fun e => by rw [e] at h2; simp at h2, fun _ => ⟨hn, c1 _ r2, c2 _ r3, by simpa using hv⟩, FineL_nil _ _ _, ?_, r1⟩
    show nDeep [] + s'.length ≤ 65
    rw [nDeep_nil]; omega
theorem SF.textP (s : Str) (a : El) (r : List El) (h : SF (a :: r)) (hl : (a :: r).length ≤ 65) (hs : s ≠ ByteArray.empty) : SF (textP s (a :: r)) := by
  obtain ⟨g1, g2, g3, g4, g5⟩ := h
  simp only [Proofs.Ytidicfdcjoggpaa.textP]
  split
  · rename_i hlt
    obtain ⟨l, x, hk, hx⟩ := last_cases hlt
    refine ⟨g1, g2, ?_, ?_, g5⟩
    · show FineL _ _ false (a.kids.dropLast ++ (a.kids.getLast?.map (·.more s)).toList)
      rw [hk, FineL_snoc] at g3
      simp only [hk, List.dropLast_concat, List.getLast?_concat, Option.map_some, Option.toList_some]
      refine (FineL_snoc ..).2 ⟨g3.1, fun hn => ?_, fun hn => absurd hx hn⟩
      obtain ⟨q1, q2, q3, q4⟩ := g3.2.1 hx
      exact ⟨fun e => q1 (by have := congrArg ByteArray.size e; simp [Node.more] at this; exact this.1), q2, q3, q4⟩
    · show nDeep (a.kids.dropLast ++ (a.kids.getLast?.map (·.more s)).toList) + r.length ≤ 65
      simp only [hk, List.dropLast_concat, List.getLast?_concat, Option.map_some, Option.toList_some]
      rw [hk, nDeep_append, nDeep_cons, nDeep_nil] at g4
      rw [nDeep_append, nDeep_cons, nDeep_nil]
      exact g4
  · rename_i hlt
    refine ⟨g1, g2, (FineL_snoc ..).2 ⟨g3, fun _ => ⟨hs, rfl, rfl, by rw [lastE_text]; simpa using hlt⟩, fun hn => absurd rfl hn⟩, ?_, g5⟩
    show nDeep (a.kids ++ [textNode s]) + r.length ≤ 65
    rw [nDeep_append, nDeep_cons, nDeep_nil]
    simp only [textNode, if_pos]
    omega
/-- How many nodes a stack has, its foot among them. -/
def stN : List El → Nat
  | [] => 0
  | e :: s => nCount e.kids + 1 + stN s
theorem stN_shutP : ∀ s : List El, stN (shutP s) = stN s
  | t :: u :: s => by
    simp only [shutP, stN, El.add, nCount_append, nCount_cons, nCount_nil, El.node]; omega
  | [_] => rfl
  | [] => rfl
theorem stN_shutN : ∀ (n : Nat) (s : List El), stN (shutN n s) = stN s
  | 0, _ => rfl
  | n + 1, s => by rw [shutN, stN_shutN n, stN_shutP]
theorem stN_closeP (name : Str) (s : List El) : stN (closeP name s) = stN s := by
  unfold closeP; split
  · rfl
  · exact stN_shutN _ _
theorem stN_startP (name : Str) (attrs : List Attr) (s : List El) (hp : 0 < s.length) : stN (startP name attrs s) = stN s + 1 := by
  have h0 : stN (afterLi name (afterBlock name s)) = stN s := by
    have h1 : stN (afterBlock name s) = stN s := by unfold afterBlock; split; exact stN_closeP _ _; rfl
    unfold afterLi; split
    · rw [stN_closeP, h1]
    · exact h1
  have h2 := afters_pos name hp
  rw [← h0]
  unfold startP laid
  generalize afterLi name (afterBlock name s) = s' at h2
  split
  · cases s' with
    | nil => simp at h2
    | cons t r => simp only [stN, El.add, nCount_append, nCount_cons, nCount_nil]; omega
  · simp only [stN, nCount_nil]; omega
theorem stN_textP (s : Str) (a : El) (r : List El) : stN (textP s (a :: r)) = stN (a :: r) + (if lastText a = true then 0 else 1) := by
  rw [textP]
  split
  · rename_i hlt
    obtain ⟨l, x, hk, hx⟩ := last_cases hlt
    simp only [stN, hk, List.dropLast_concat, List.getLast?_concat, Option.map_some, Option.toList_some, nCount_append, nCount_cons, nCount_nil, Node.more]; omega
  · simp only [stN, El.add, nCount_append, nCount_cons, nCount_nil, textNode]; omega
structure FInv (st : List El) (many : Int) : Prop where
  sf : SF st
  pos : 0 < st.length
  len : st.length ≤ 65
  cnt : (stN st : Int) = many + 1
  hi : many ≤ 2000
theorem over_false {st : List El} {many : Int} (h : overP st many = false) : st.length ≤ 65 ∧ many ≤ 2000 := by
  simp [overP] at h
  omega
theorem FInv.step {t : Token} {st : List El} {many : Int} (h : FInv st many) (hn : t.kind = 2 → t.name ≠ ByteArray.empty) (ho : (stepS t st many).over = false) : FInv (stepS t st many).st (stepS t st many).many := by
  obtain ⟨h1, h2, h3, h4, h5⟩ := h
  have hpos := stepS_pos (t := t) (many := many) h2
  revert ho hpos
  unfold stepS
  split
  · unfold textS
    split
    · intro _ _; exact ⟨h1, h2, h3, h4, h5⟩
    · rename_i hs
      cases st with
      | nil => simp at h2
      | cons a r =>
        simp only
        split
        · rename_i hlt
          intro _ hp
          exact ⟨h1.textP _ a r h3 hs, hp, by simpa [textP] using h3, by rw [stN_textP, if_pos hlt]; exact h4, h5⟩
        · rename_i hlt
          intro ho hp
          have := over_false ho
          exact ⟨h1.textP _ a r h3 hs, hp, this.1, by rw [stN_textP, if_neg hlt]; simp only; omega, this.2⟩
  · split
    · rename_i hk
      intro ho hp
      have := over_false ho
      have hc := stN_startP t.name t.attrs st h2
      exact ⟨h1.startP _ _ h2 h3 (hn hk), hp, this.1, by simp only; omega, this.2⟩
    · split
      · unfold endS
        split
        · intro _ hp; exact ⟨h1.closeP _, hp, Nat.le_trans (closeP_len _ _) h3, by rw [stN_closeP]; exact h4, h5⟩
        · split
          · intro ho hp
            have := over_false ho
            have hc := stN_startP bP [] st h2
            exact ⟨(h1.startP bP [] h2 h3 bP_ne).closeP _, hp, Nat.le_trans (closeP_len _ _) this.1, by rw [stN_closeP]; simp only; omega, this.2⟩
          · split
            · intro ho hp
              have := over_false ho
              have hc := stN_startP bBr [] st h2
              exact ⟨h1.startP bBr [] h2 h3 bBr_ne, hp, this.1, by simp only; omega, this.2⟩
            · intro _ hp; exact ⟨h1, h2, h3, h4, h5⟩
      · intro _ _; exact ⟨h1, h2, h3, h4, h5⟩
theorem buildL_fine : ∀ (l : List Token) (st : List El) (many : Int), FInv st many → (∀ t ∈ l, t.kind = 2 → t.name ≠ ByteArray.empty) → ∀ r, buildL l st many = some r → ∃ m, FInv r m
  | [], st, many, hi, _, r, h => by cases h; exact ⟨_, hi⟩
  | t :: ts, st, many, hi, hn, r, h => by
    rw [buildL] at h
    split at h
    · cases h
    · rename_i ho
      exact buildL_fine ts _ _ (hi.step (hn t (by simp)) (by simpa using ho)) (fun t ht => hn t (by simp [ht])) r h
theorem root_fine : FInv [rootEl] 0 := ⟨⟨fun _ => rfl, fun h => absurd rfl h, FineL_nil _ _ _, by simp [rootEl, nDeep_nil], trivial⟩, by simp, by simp, by simp [stN, rootEl, nCount_nil], by omega⟩
theorem build_fine (l : List Token) (ns : List Node) (hn : ∀ t ∈ l, t.kind = 2 → t.name ≠ ByteArray.empty) (h : build l = some ns) : FineL false false false ns ∧ nCount ns ≤ 2000 ∧ nDeep ns ≤ 65 := by
  unfold build at h
  rw [Option.map_eq_some_iff] at h
  obtain ⟨st, h1, rfl⟩ := h
  obtain ⟨m, h2, h3, h4, h5, h6⟩ := buildL_fine l _ _ root_fine hn st h1
  obtain ⟨e, he⟩ := shutN_one (st.length - 1) st (by omega)
  have h7 := stN_shutN (st.length - 1) st
  have h8 := h2.shutN (st.length - 1)
  rw [he] at h7 h8 ⊢
  obtain ⟨g1, -, g3, g4, -⟩ := h8
  have e1 : ctxP [e] = false := by simp only [ctxP, g1 rfl, Bool.false_or]; exact decide_eq_false (fun e => bP_ne e.symm)
  have e2 : ctxLi [e] = false := by simp only [ctxLi, inLi, g1 rfl, Bool.false_and, Bool.false_or]; exact decide_eq_false (fun e => li_names.2.2.1 e.symm)
  rw [e1, e2] at g3
  simp only [stN] at h7
  exact ⟨g3, by show nCount e.kids ≤ 2000; omega, by show nDeep e.kids ≤ 65; simpa using g4⟩
end Go.Proofs.Ytidicfdcjoggpaa
