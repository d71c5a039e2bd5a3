/-
  The document's tree builder (all nodes as they came, each with its place's parent), as functions; it builds what the stack builds.
-/
import Derived.Test.YtidicfdcjoggpaaDomPure
namespace Go.Proofs.Ytidicfdcjoggpaa
open Go.RowKit
set_option linter.unusedVariables false
set_option linter.unusedSimpArgs false
/-- A node as it came; up: the place of the one within which it stands. -/
structure Fl where
  name : Str
  attrs : List Attr
  text : Str
  up : Int
/-- What stands within a place, of what comes from a place on. -/
def kidsS : List Fl → Nat → Int → List Node
  | [], _, _ => []
  | f :: r, b, up => if f.up = up then ⟨f.name, f.attrs, f.text, if f.name = ByteArray.empty then [] else kidsS r (b + 1) b⟩ :: kidsS r (b + 1) up else kidsS r (b + 1) up
theorem kidsS_none : ∀ (T : List Fl) (b : Nat) (up : Int), (∀ x ∈ T, x.up ≠ up) → kidsS T b up = []
  | [], _, _, _ => rfl
  | x :: T, b, up, h => by
    rw [kidsS, if_neg (h x (by simp))]
    exact kidsS_none T _ _ (fun y hy => h y (by simp [hy]))
theorem kidsS_skip : ∀ (r T : List Fl) (b : Nat) (up : Int), (∀ x ∈ T, x.up ≠ up ∧ (x.up < b ∨ ((b + r.length : Nat) : Int) ≤ x.up)) → kidsS (r ++ T) b up = kidsS r b up
  | [], T, b, up, h => by rw [List.nil_append, kidsS_none T b up (fun x hx => (h x hx).1)]; rfl
  | f :: r, T, b, up, h => by
    have h1 : kidsS (r ++ T) (b + 1) b = kidsS r (b + 1) b := kidsS_skip r T (b + 1) b (fun x hx => by have := (h x hx).2; simp only [List.length_cons] at this; omega)
    have h2 : kidsS (r ++ T) (b + 1) up = kidsS r (b + 1) up := kidsS_skip r T (b + 1) up (fun x hx => by have := h x hx; simp only [List.length_cons] at this; exact ⟨this.1, by omega⟩)
    rw [List.cons_append, kidsS, kidsS, h1, h2]
theorem kidsS_end : ∀ (r : List Fl) (F : Fl) (B : List Fl) (b : Nat) (up : Int), F.up = up → up < b → (∀ x ∈ B, ((b + r.length : Nat) : Int) ≤ x.up) →
    kidsS (r ++ F :: B) b up = kidsS r b up ++ [⟨F.name, F.attrs, F.text, if F.name = ByteArray.empty then [] else kidsS B (b + r.length + 1) ((b + r.length : Nat) : Int)⟩]
  | [], F, B, b, up, h1, h2, h3 => by
    rw [List.nil_append]
    show (if F.up = up then _ else _) = _
    rw [if_pos h1, kidsS_none B _ up (fun x hx => by have := h3 x hx; simp at this; omega)]
    rfl
  | f :: r, F, B, b, up, h1, h2, h3 => by
    have e1 : kidsS (r ++ F :: B) (b + 1) b = kidsS r (b + 1) b := kidsS_skip r (F :: B) (b + 1) b (fun x hx => by
      rcases List.mem_cons.1 hx with rfl | hx
      · omega
      · have := h3 x hx; simp only [List.length_cons] at this; omega)
    have e2 := kidsS_end r F B (b + 1) up h1 (by omega) (fun x hx => by have := h3 x hx; simp only [List.length_cons] at this; omega)
    have e3 : b + (f :: r).length = b + 1 + r.length := by simp only [List.length_cons]; omega
    rw [List.cons_append, kidsS, kidsS, e1, e2, e3]
    split <;> rfl
def Fl.say (x : Fl) (t : Str) : Fl := ⟨x.name, x.attrs, t, x.up⟩
theorem kidsS_same : ∀ (r : List Fl) (x : Fl) (t : Str) (B : List Fl) (b : Nat) (up : Int), x.up < b → x.up ≠ up → kidsS (r ++ x.say t :: B) b up = kidsS (r ++ x :: B) b up
  | [], x, t, B, b, up, h1, h2 => by
    rw [List.nil_append, List.nil_append, kidsS, kidsS, if_neg h2, if_neg (show ¬ (x.say t).up = up from h2)]
  | f :: r, x, t, B, b, up, h1, h2 => by
    have e1 := kidsS_same r x t B (b + 1) b (by omega) (by omega)
    have e2 := kidsS_same r x t B (b + 1) up (by omega) h2
    rw [List.cons_append, List.cons_append, kidsS, kidsS, e1, e2]
theorem kidsS_text : ∀ (r : List Fl) (x : Fl) (B : List Fl) (b : Nat) (up : Int), x.up = up → up < b → (∀ y ∈ B, y.up ≠ up) →
    ∃ K ks, (x.name = ByteArray.empty → ks = []) ∧ ∀ t, kidsS (r ++ x.say t :: B) b up = K ++ [⟨x.name, x.attrs, t, ks⟩]
  | [], x, B, b, up, h1, h2, h3 => by
    refine ⟨[], if x.name = ByteArray.empty then [] else kidsS B (b + 1) b, fun h => if_pos h, fun t => ?_⟩
    rw [List.nil_append, kidsS, if_pos (show (x.say t).up = up from h1), kidsS_none B _ up h3]
    rfl
  | f :: r, x, B, b, up, h1, h2, h3 => by
    obtain ⟨K, ks, hk, h⟩ := kidsS_text r x B (b + 1) up h1 (by omega) h3
    have e1 := fun t => kidsS_same r x t B (b + 1) b (by omega) (by omega)
    refine ⟨if f.up = up then ⟨f.name, f.attrs, f.text, if f.name = ByteArray.empty then [] else kidsS (r ++ x :: B) (b + 1) b⟩ :: K else K, ks, hk, fun t => ?_⟩
    rw [List.cons_append, kidsS, e1, h]
    split <;> rfl
/-- Where what comes is put; the innermost first. -/
def hereR : List Nat → Int
  | [] => -1
  | o :: _ => o
/-- The stack of the elements that are open (the innermost first), read from the nodes as they came. -/
def RF : List Nat → List Fl → List El → Prop
  | [], l, st => ∃ r, st = [r] ∧ r.kids = kidsS l 0 (-1)
  | o :: op, l, st => ∃ t s A F B, st = t :: s ∧ l = A ++ F :: B ∧ A.length = o ∧ F.name = t.name ∧ F.attrs = t.attrs ∧ F.text = ByteArray.empty ∧ F.up = hereR op ∧ t.name ≠ ByteArray.empty ∧ (∀ x ∈ B, (o : Int) ≤ x.up) ∧ t.kids = kidsS B (o + 1) o ∧ RF op A s
theorem RF.len : ∀ {op : List Nat} {l : List Fl} {st : List El}, RF op l st → st.length = op.length + 1
  | [], l, st, ⟨r, h, _⟩ => by rw [h]; rfl
  | o :: op, l, st, ⟨t, s, A, F, B, h, _, _, _, _, _, _, _, _, _, hr⟩ => by rw [h, List.length_cons, hr.len, List.length_cons]
theorem RF.here_lt : ∀ {op : List Nat} {l : List Fl} {st : List El}, RF op l st → hereR op < l.length
  | [], l, st, _ => by simp [hereR]; omega
  | o :: op, l, st, ⟨t, s, A, F, B, _, h, ho, _⟩ => by rw [h]; simp [hereR, ho]; omega
theorem RF.put {nm : Str} {ats : List Attr} {tx : Str} : ∀ {op : List Nat} {l : List Fl} {t : El} {s : List El}, RF op l (t :: s) → RF op (l ++ [⟨nm, ats, tx, hereR op⟩]) (t.add ⟨nm, ats, tx, []⟩ :: s)
  | [], l, t, s, ⟨r, h, hk⟩ => by
    cases h
    refine ⟨_, rfl, ?_⟩
    have := kidsS_end l ⟨nm, ats, tx, -1⟩ [] 0 (-1) rfl (by omega) (by simp)
    show t.kids ++ _ = _
    rw [show hereR [] = -1 from rfl, this, hk]
    simp [kidsS]
  | o :: op, l, t, s, ⟨t', s', A, F, B, h, hl, ho, h1, h2, h3, h4, h5, h6, h7, h8⟩ => by
    cases h
    refine ⟨_, _, A, F, B ++ [⟨nm, ats, tx, (o : Int)⟩], rfl, by rw [hl]; simp [hereR], ho, h1, h2, h3, h4, h5, fun x hx => ?_, ?_, h8⟩
    · rcases List.mem_append.1 hx with hx | hx
      · exact h6 x hx
      · simp at hx; subst hx; exact Int.le_refl _
    · have := kidsS_end B ⟨nm, ats, tx, (o : Int)⟩ [] (o + 1) o rfl (by omega) (by simp)
      show t.kids ++ _ = _
      rw [this, h7]
      simp [kidsS]
theorem RF.shut : ∀ {o : Nat} {op : List Nat} {l : List Fl} {st : List El}, RF (o :: op) l st → RF op l (shutP st)
  | o, [], l, st, ⟨t, s, A, F, B, h, hl, ho, h1, h2, h3, h4, h5, h6, h7, r, hr, hk⟩ => by
    subst h hr
    refine ⟨r.add t.node, rfl, ?_⟩
    have := kidsS_end A F B 0 (-1) h4 (by omega) (fun x hx => by have := h6 x hx; simp [ho]; omega)
    rw [hl, this, h1, h2, h3, if_neg h5]
    simp only [Nat.zero_add, ho]
    show r.kids ++ [t.node] = _
    rw [hk, El.node, h7]
  | o, o2 :: op, l, st, ⟨t, s, A, F, B, h, hl, ho, h1, h2, h3, h4, h5, h6, h7, u, s2, A2, F2, B2, hs, hl2, ho2, k1, k2, k3, k4, k5, k6, k7, k8⟩ => by
    subst h hs
    have hol : o = o2 + 1 + B2.length := by rw [← ho, hl2]; simp [ho2]; omega
    refine ⟨u.add t.node, s2, A2, F2, B2 ++ F :: B, rfl, by rw [hl, hl2]; simp, ho2, k1, k2, k3, k4, k5, fun x hx => ?_, ?_, k8⟩
    · rcases List.mem_append.1 hx with hx | hx
      · exact k6 x hx
      · rcases List.mem_cons.1 hx with rfl | hx
        · rw [h4]; exact Int.le_refl _
        · have := h6 x hx; omega
    · have := kidsS_end B2 F B (o2 + 1) o2 h4 (by omega) (fun x hx => by have := h6 x hx; omega)
      show u.kids ++ [t.node] = _
      rw [this, h1, h2, h3, if_neg h5, ← hol, El.node, h7, k7]
theorem RF.shutN : ∀ (n : Nat) {op : List Nat} {l : List Fl} {st : List El}, n ≤ op.length → RF op l st → RF (op.drop n) l (shutN n st)
  | 0, op, l, st, _, h => h
  | n + 1, [], l, st, hn, h => by simp at hn
  | n + 1, o :: op, l, st, hn, h => RF.shutN n (by simpa using hn) h.shut
theorem RF.push {op : List Nat} {l : List Fl} {st : List El} {nm : Str} {ats : List Attr} (h : RF op l st) (hn : nm ≠ ByteArray.empty) : RF (l.length :: op) (l ++ [⟨nm, ats, ByteArray.empty, hereR op⟩]) (⟨nm, ats, []⟩ :: st) :=
  ⟨_, _, l, _, [], rfl, rfl, rfl, rfl, rfl, rfl, rfl, hn, by simp, rfl, h⟩
/-- No node stands within one that came later. -/
def Ups (l : List Fl) : Prop := ∀ A x B, l = A ++ x :: B → x.up < A.length
theorem Ups.nil : Ups [] := fun A x B h => by simp at h
theorem Ups.put {l : List Fl} {x : Fl} (h : Ups l) (hx : x.up < l.length) : Ups (l ++ [x]) := by
  intro A y B e
  rcases List.eq_nil_or_concat B with rfl | ⟨B', z, rfl⟩
  · have e2 := List.append_inj' e rfl
    obtain ⟨rfl, e2⟩ := e2
    cases e2
    exact hx
  · rw [List.concat_eq_append, ← List.cons_append, ← List.append_assoc] at e
    exact h A y B' (List.append_inj' e rfl).1
theorem Ups.say {A : List Fl} {x : Fl} {B : List Fl} (t : Str) (h : Ups (A ++ x :: B)) : Ups (A ++ x.say t :: B) := by
  intro A' y B' e
  have hlen : A'.length < (A ++ x :: B).length := by
    have := congrArg List.length e
    simp at this ⊢
    omega
  have hy : y = (A ++ x.say t :: B)[A'.length]'(by simpa using hlen) := by simp [e]
  have hup : y.up = ((A ++ x :: B)[A'.length]'hlen).up := by
    rw [hy]
    simp only [List.getElem_append, List.getElem_cons]
    split
    · rfl
    · split <;> rfl
  rw [hup]
  have := h ((A ++ x :: B).take A'.length) ((A ++ x :: B)[A'.length]'hlen) ((A ++ x :: B).drop (A'.length + 1)) (by rw [← List.drop_eq_getElem_cons hlen, List.take_append_drop])
  rw [List.length_take, Nat.min_eq_left (by omega)] at this
  exact this
/-- The place of what stands last within a place, of so many. -/
def lastUp (l : List Fl) (h : Int) : Nat → Int
  | 0 => -1
  | n + 1 => if (l[n]?.map (·.up)) = some h then n else lastUp l h n
theorem lastUp_cases (l : List Fl) (h : Int) : ∀ n, n ≤ l.length → (lastUp l h n = -1 ∧ ∀ x ∈ l.take n, x.up ≠ h) ∨ ∃ A x B, l.take n = A ++ x :: B ∧ lastUp l h n = A.length ∧ x.up = h ∧ ∀ y ∈ B, y.up ≠ h
  | 0, _ => .inl ⟨rfl, by simp⟩
  | n + 1, hn => by
    have hlt : n < l.length := by omega
    rw [List.take_succ_eq_append_getElem hlt, lastUp]
    by_cases e : l[n].up = h
    · rw [if_pos (by simp [hlt, e])]
      exact .inr ⟨l.take n, l[n], [], rfl, by simp; omega, e, by simp⟩
    · rw [if_neg (by simp [hlt, e])]
      rcases lastUp_cases l h n (by omega) with ⟨h1, h2⟩ | ⟨A, x, B, h1, h2, h3, h4⟩
      · exact .inl ⟨h1, fun x hx => by
          rcases List.mem_append.1 hx with hx | hx
          · exact h2 x hx
          · simp at hx; subst hx; exact e⟩
      · refine .inr ⟨A, x, B ++ [l[n]], by rw [h1]; simp, h2, h3, fun y hy => ?_⟩
        rcases List.mem_append.1 hy with hy | hy
        · exact h4 y hy
        · simp at hy; subst hy; exact e
theorem RF.nolast : ∀ {op : List Nat} {l : List Fl} {t : El} {s : List El}, RF op l (t :: s) → (∀ x ∈ l, x.up ≠ hereR op) → lastText t = false
  | [], l, t, s, ⟨r, h, hk⟩, hn => by
    cases h
    rw [kidsS_none l 0 (-1) hn] at hk
    simp [lastText, hk]
  | o :: op, l, t, s, ⟨t', s', A, F, B, h, hl, ho, h1, h2, h3, h4, h5, h6, h7, h8⟩, hn => by
    cases h
    rw [kidsS_none B (o + 1) (o : Int) (fun x hx => hn x (by rw [hl]; simp [hx]))] at h7
    simp [lastText, h7]
theorem RF.lastt : ∀ {op : List Nat} {A0 : List Fl} {x : Fl} {B0 : List Fl} {t : El} {s : List El}, RF op (A0 ++ x :: B0) (t :: s) → Ups (A0 ++ x :: B0) → x.up = hereR op → (∀ y ∈ B0, y.up ≠ hereR op) →
    lastText t = decide (x.name = ByteArray.empty) ∧ ∀ tx, x.name = ByteArray.empty → RF op (A0 ++ x.say (x.text ++ tx) :: B0) (textP tx (t :: s))
  | [], A0, x, B0, t, s, ⟨r, h, hk⟩, hu, hx, hn => by
    cases h
    obtain ⟨K, ks, h1, h2⟩ := kidsS_text A0 x B0 0 (-1) hx (by omega) hn
    have h0 : t.kids = K ++ [⟨x.name, x.attrs, x.text, ks⟩] := by rw [hk, ← h2 x.text]; rfl
    have hlt : lastText t = decide (x.name = ByteArray.empty) := by simp [lastText, h0]
    refine ⟨hlt, fun tx he => ⟨_, rfl, ?_⟩⟩
    rw [if_pos (by rw [hlt]; simpa using he), h2, h0]
    simp [Node.more]
  | o :: op, A0, x, B0, t, s, ⟨t', s', A, F, B, h, hl, ho, k1, k2, k3, k4, k5, k6, k7, k8⟩, hu, hx, hn => by
    cases h
    have hx0 : x.up = (o : Int) := hx
    have hgt : o < A0.length := by have := hu A0 x B0 rfl; omega
    obtain ⟨B', rfl, rfl⟩ : ∃ B', A0 = A ++ F :: B' ∧ B = B' ++ x :: B0 := by
      rcases List.append_eq_append_iff.1 hl with ⟨a', h1, h2⟩ | ⟨c', h1, h2⟩
      · have := congrArg List.length h1; simp at this; omega
      · cases c' with
        | nil => simp at h1; rw [h1] at hgt; omega
        | cons f c' => simp at h2; obtain ⟨rfl, rfl⟩ := h2; exact ⟨c', h1, rfl⟩
    obtain ⟨K, ks, h1, h2⟩ := kidsS_text B' x B0 (o + 1) o hx0 (by omega) hn
    have h0 : t.kids = K ++ [⟨x.name, x.attrs, x.text, ks⟩] := by rw [k7, ← h2 x.text]; rfl
    have hlt : lastText t = decide (x.name = ByteArray.empty) := by simp [lastText, h0]
    refine ⟨hlt, fun tx he => ⟨_, _, A, F, B' ++ x.say (x.text ++ tx) :: B0, rfl, by simp, ho, ?_, ?_, k3, k4, ?_, fun y hy => ?_, ?_, k8⟩⟩
    · rw [if_pos (by rw [hlt]; simpa using he)]; exact k1
    · rw [if_pos (by rw [hlt]; simpa using he)]; exact k2
    · rw [if_pos (by rw [hlt]; simpa using he)]; exact k5
    · rcases List.mem_append.1 hy with hy | hy
      · exact k6 y (by simp [hy])
      · rcases List.mem_cons.1 hy with rfl | hy
        · exact k6 x (by simp)
        · exact k6 y (by simp [hy])
    · rw [if_pos (by rw [hlt]; simpa using he), h2, h0]
      simp [Node.more]
def nameF (l : List Fl) (o : Nat) : Str := ((l[o]?).map (·.name)).getD ByteArray.empty
/-- How many are open up to the innermost one of some names, it too. -/
def innerR (l : List Fl) (names : List Str) : List Nat → Nat
  | [] => 0
  | o :: op => if nameF l o ∈ names then op.length + 1 else innerR l names op
theorem innerR_le (l : List Fl) (names : List Str) : ∀ op : List Nat, innerR l names op ≤ op.length
  | [] => Nat.le_refl _
  | o :: op => by
    rw [innerR]
    split
    · simp
    · exact Nat.le_succ_of_le (innerR_le l names op)
theorem nameF_at {A : List Fl} {F : Fl} {B : List Fl} : nameF (A ++ F :: B) A.length = F.name := by simp [nameF]
theorem RF.inner (names : List Str) : ∀ {op : List Nat} {l : List Fl} {st : List El}, RF op l st → ∀ T, innerR (l ++ T) names op = innerP names st
  | [], l, st, ⟨r, h, _⟩, T => by rw [h]; rfl
  | o :: op, l, st, ⟨t, s, A, F, B, h, hl, ho, h1, h2, h3, h4, h5, h6, h7, hr⟩, T => by
    have hlen := hr.len
    have ih := RF.inner names hr (F :: B ++ T)
    obtain ⟨u, s', rfl⟩ : ∃ u s', s = u :: s' := by cases s with | nil => simp at hlen | cons u s' => exact ⟨u, s', rfl⟩
    have e : l ++ T = A ++ F :: (B ++ T) := by rw [hl]; simp
    rw [innerR, h, innerP, hlen]
    have hn : nameF (l ++ T) o = t.name := by rw [e, ← ho, nameF_at, h1]
    rw [hn, ← ih]
    simp only [List.cons_append, e]
theorem RF.nameAt : ∀ {op : List Nat} {l : List Fl} {st : List El}, RF op l st → ∀ T k, 0 < k → k ≤ op.length → nameF (l ++ T) (op.reverse.getD (k - 1) 0) = nameAt st k
  | [], l, st, _, T, k, h0, hk => by simp at hk; omega
  | o :: op, l, st, ⟨t, s, A, F, B, h, hl, ho, h1, h2, h3, h4, h5, h6, h7, hr⟩, T, k, h0, hk => by
    have hlen := hr.len
    have e : l ++ T = A ++ F :: (B ++ T) := by rw [hl]; simp
    rw [List.length_cons] at hk
    by_cases hkl : k = op.length + 1
    · subst hkl
      have hn : nameF (l ++ T) o = t.name := by rw [e, ← ho, nameF_at, h1]
      have q1 : (op.reverse ++ [o]).getD (op.length + 1 - 1) 0 = o := by simp [List.getD_eq_getElem?_getD]
      have q2 : Go.Proofs.Ytidicfdcjoggpaa.nameAt (t :: s) (op.length + 1) = t.name := by
        simp only [Go.Proofs.Ytidicfdcjoggpaa.nameAt]
        rw [List.reverse_cons, List.getElem?_append_right (by simp; omega)]
        simp [hlen]
      rw [List.reverse_cons, h, q1, q2, hn]
    · have ih := RF.nameAt hr (F :: B ++ T) k h0 (by omega)
      rw [List.reverse_cons, h]
      have e1 : (op.reverse ++ [o]).getD (k - 1) 0 = op.reverse.getD (k - 1) 0 := by
        simp only [List.getD_eq_getElem?_getD]; rw [List.getElem?_append_left (by simp; omega)]
      have e2 : Go.Proofs.Ytidicfdcjoggpaa.nameAt (t :: s) k = Go.Proofs.Ytidicfdcjoggpaa.nameAt s k := by
        simp only [Go.Proofs.Ytidicfdcjoggpaa.nameAt, List.reverse_cons]; rw [List.getElem?_append_left (by simp; omega)]
      rw [e1, e2, ← ih, e]
      simp
theorem innerP_li : ∀ s : List El, 0 < innerP [bLi, bUl, bOl] s → nameAt s (innerP [bLi, bUl, bOl] s) = bLi → innerP [bLi] s = innerP [bLi, bUl, bOl] s
  | [], h, _ => by simp [innerP] at h
  | [_], h, _ => by simp [innerP] at h
  | t :: u :: s, h, hn => by
    by_cases e : t.name ∈ [bLi, bUl, bOl]
    · have e3 : innerP [bLi, bUl, bOl] (t :: u :: s) = (u :: s).length := by rw [innerP, if_pos e]
      rw [e3] at hn ⊢
      have : t.name = bLi := by
        rw [nameAt, List.reverse_cons, List.getElem?_append_right (by simp)] at hn
        simpa using hn
      rw [innerP, if_pos (by simp [this])]
    · have e3 : innerP [bLi, bUl, bOl] (t :: u :: s) = innerP [bLi, bUl, bOl] (u :: s) := by rw [innerP, if_neg e]
      rw [e3] at h hn ⊢
      have hle := innerP_le [bLi, bUl, bOl] (u :: s)
      have e2 : nameAt (t :: u :: s) (innerP [bLi, bUl, bOl] (u :: s)) = nameAt (u :: s) (innerP [bLi, bUl, bOl] (u :: s)) := by
        simp only [nameAt]
        rw [List.reverse_cons, List.getElem?_append_left (by simp at hle ⊢; omega)]
      rw [e2] at hn
      rw [innerP, if_neg (fun h2 => e (by simp at h2 ⊢; exact .inl h2))]
      exact innerP_li (u :: s) h hn
/-- Down to so many. -/
def cutR (op : List Nat) (k : Nat) : List Nat := op.drop (op.length - (k - 1))
def closeR (l : List Fl) (names : List Str) (op : List Nat) : List Nat := if innerR l names op = 0 then op else cutR op (innerR l names op)
theorem RF.close {op : List Nat} {l : List Fl} {st : List El} (h : RF op l st) (name : Str) : RF (closeR l [name] op) l (closeP name st) := by
  have hi := h.inner [name] []
  rw [List.append_nil] at hi
  unfold closeR closeP
  rw [hi]
  split
  · exact h
  · have := h.len
    have hl := innerP_le [name] st
    rw [cutR, show op.length - (innerP [name] st - 1) = st.length - innerP [name] st by omega]
    exact h.shutN _ (by omega)
theorem closeR_len (l : List Fl) (names : List Str) (op : List Nat) : (closeR l names op).length ≤ op.length := by
  unfold closeR cutR
  split
  · exact Nat.le_refl _
  · simp
def op1R (name : Str) (l : List Fl) (op : List Nat) : List Nat := if isBlock name = true then closeR l [bP] op else op
def liR (name : Str) (l : List Fl) (op : List Nat) : Bool := decide (name = bLi) && (decide (0 < innerR l [bLi, bUl, bOl] op) && decide (nameF l (op.reverse.getD (innerR l [bLi, bUl, bOl] op - 1) 0) = bLi))
def op2R (name : Str) (l : List Fl) (op : List Nat) : List Nat := if liR name l op = true then cutR op (innerR l [bLi, bUl, bOl] op) else op
theorem RF.op1 {op : List Nat} {l : List Fl} {st : List El} (h : RF op l st) (name : Str) : RF (op1R name l op) l (afterBlock name st) := by
  unfold op1R afterBlock
  split
  · exact h.close bP
  · exact h
theorem RF.op2 {op : List Nat} {l : List Fl} {st : List El} (h : RF op l st) (name : Str) : RF (op2R name l op) l (afterLi name st) := by
  have hi := h.inner [bLi, bUl, bOl] []
  rw [List.append_nil] at hi
  have hlen := h.len
  have hle := innerP_le [bLi, bUl, bOl] st
  have hl : liR name l op = liOver name st := by
    unfold liR liOver
    rw [hi]
    by_cases h0 : 0 < innerP [bLi, bUl, bOl] st
    · have := h.nameAt [] (innerP [bLi, bUl, bOl] st) h0 (by omega)
      rw [List.append_nil] at this
      rw [this]
    · simp [h0]
  unfold op2R afterLi
  rw [hl]
  split
  · rename_i hv
    have h1 : 0 < innerP [bLi, bUl, bOl] st ∧ Go.Proofs.Ytidicfdcjoggpaa.nameAt st (innerP [bLi, bUl, bOl] st) = bLi := by
      unfold liOver at hv
      simp only [Bool.and_eq_true, decide_eq_true_eq] at hv
      exact hv.2
    have h2 := innerP_li st h1.1 h1.2
    unfold closeP
    rw [h2, if_neg (by omega), hi, cutR, show op.length - (innerP [bLi, bUl, bOl] st - 1) = st.length - innerP [bLi, bUl, bOl] st by omega]
    exact h.shutN _ (by omega)
  · exact h
structure FB where
  l : List Fl
  op : List Nat
  bad : Bool
def putF (nm : Str) (ats : List Attr) (tx : Str) (x : FB) : FB := ⟨x.l ++ [⟨nm, ats, tx, hereR x.op⟩], x.op, x.bad || decide (2000 < x.l.length + 1)⟩
def openF (x : FB) : FB := ⟨x.l, (x.l.length - 1) :: x.op, x.bad || decide (64 < x.op.length + 1)⟩
def startF (nm : Str) (ats : List Attr) (x : FB) : FB :=
  if isVoid nm = true then putF nm ats ByteArray.empty ⟨x.l, op2R nm x.l (op1R nm x.l x.op), x.bad⟩
  else openF (putF nm ats ByteArray.empty ⟨x.l, op2R nm x.l (op1R nm x.l x.op), x.bad⟩)
def sayF (k : Nat) (s : Str) (l : List Fl) : List Fl := l.modify k fun f => f.say (f.text ++ s)
def textF (s : Str) (x : FB) : FB :=
  if s = ByteArray.empty then x
  else if 0 ≤ lastUp x.l (hereR x.op) x.l.length ∧ nameF x.l (lastUp x.l (hereR x.op) x.l.length).toNat = ByteArray.empty then ⟨sayF (lastUp x.l (hereR x.op) x.l.length).toNat s x.l, x.op, x.bad⟩
  else putF ByteArray.empty [] s x
def closeF (nm : Str) (x : FB) : FB := ⟨x.l, closeR x.l [nm] x.op, x.bad⟩
def endF (nm : Str) (x : FB) : FB :=
  if 0 < innerR x.l [nm] x.op then closeF nm x
  else if nm = bP then closeF bP (startF bP [] x)
  else if nm = bBr then startF bBr [] x
  else x
def takeF (t : Token) (x : FB) : FB :=
  if t.kind = 1 then textF t.text x
  else if t.kind = 2 then startF t.name t.attrs x
  else if t.kind = 3 then endF t.name x
  else x
structure Sim (x : FB) (st : List El) (many : Int) : Prop where
  rf : RF x.op x.l st
  ups : Ups x.l
  many : many = x.l.length
  deep : x.op.length ≤ 64
  ok : x.bad = false
theorem op2_len (nm : Str) (l : List Fl) (op : List Nat) : (op2R nm l op).length ≤ op.length := by
  unfold op2R cutR; split <;> simp
theorem op1_len (nm : Str) (l : List Fl) (op : List Nat) : (op1R nm l op).length ≤ op.length := by
  unfold op1R; split
  · exact closeR_len _ _ _
  · exact Nat.le_refl _
theorem overP_eq {st : List El} {n : Nat} {b : Bool} {many : Int} (h1 : (decide (65 < st.length) = b)) (h2 : many = n) : overP st (many + 1) = (decide (2000 < n + 1) || b) := by
  unfold overP
  rw [h1, h2, Bool.or_comm]
  congr 1
  simp
  omega
theorem Sim.start {x : FB} {st : List El} {many : Int} (h : Sim x st many) (nm : Str) (ats : List Attr) (hn : nm ≠ ByteArray.empty) :
    RF (startF nm ats x).op (startF nm ats x).l (startP nm ats st) ∧ Ups (startF nm ats x).l ∧ many + 1 = (startF nm ats x).l.length ∧ (startF nm ats x).bad = overP (startP nm ats st) (many + 1) ∧ ((startF nm ats x).bad = false → (startF nm ats x).op.length ≤ 64) := by
  have h2 := (h.rf.op1 nm).op2 nm
  have l1 := op1_len nm x.l x.op
  have l2 := op2_len nm x.l (op1R nm x.l x.op)
  have hd := h.deep
  unfold startF startP laid
  generalize op2R nm x.l (op1R nm x.l x.op) = op at h2 l2 ⊢
  generalize afterLi nm (afterBlock nm st) = s at h2 ⊢
  have hlen := h2.len
  obtain ⟨t, r, rfl⟩ : ∃ t r, s = t :: r := by cases s with | nil => simp at hlen | cons u s' => exact ⟨u, s', rfl⟩
  have hu := h.ups.put (x := ⟨nm, ats, ByteArray.empty, hereR op⟩) h2.here_lt
  have hm := h.many
  cases hv : isVoid nm
  · have hp : RF (x.l.length :: op) (x.l ++ [⟨nm, ats, ByteArray.empty, hereR op⟩]) (⟨nm, ats, []⟩ :: t :: r) := h2.push hn
    simp only [Bool.false_eq_true, if_false, openF, putF, h.ok, Bool.false_or, List.length_append, List.length_cons, List.length_nil]
    refine ⟨by simpa using hp, hu, by omega, ?_, fun hb => ?_⟩
    · rw [overP_eq (n := x.l.length) (b := decide (64 < op.length + 1)) (by rw [hp.len]; simp; omega) hm]
    · simp at hb; simp; omega
  · simp only [if_true, putF, h.ok, Bool.false_or, List.length_append, List.length_cons, List.length_nil]
    refine ⟨h2.put, hu, by omega, ?_, fun hb => by omega⟩
    rw [overP_eq (n := x.l.length) (b := false) (by rw [(h2.put (nm := nm) (ats := ats) (tx := ByteArray.empty)).len]; simp; omega) hm, Bool.or_false]
theorem Sim.close {op : List Nat} {x : FB} {st : List El} (h : RF x.op x.l st) (nm : Str) : RF (closeF nm x).op (closeF nm x).l (closeP nm st) := h.close nm
theorem sayF_at : ∀ (A : List Fl) (f : Fl) (B : List Fl) (s : Str), sayF A.length s (A ++ f :: B) = A ++ f.say (f.text ++ s) :: B
  | [], f, B, s => by simp [sayF]
  | a :: A, f, B, s => by
    have := sayF_at A f B s
    unfold sayF at this ⊢
    rw [List.length_cons, List.cons_append, List.modify_succ_cons, this, List.cons_append]
theorem Sim.step {x : FB} {st : List El} {many : Int} (h : Sim x st many) (t : Token) (hn : t.kind = 2 → t.name ≠ ByteArray.empty) :
    (takeF t x).bad = (stepS t st many).over ∧ ((stepS t st many).over = false → Sim (takeF t x) (stepS t st many).st (stepS t st many).many) := by
  have hsame : x.bad = false ∧ ((false : Bool) = false → Sim x st many) := ⟨h.ok, fun _ => h⟩
  have hp : bP ≠ ByteArray.empty := fun e => by have := congrArg ByteArray.size e; revert this; decide
  have hbr : bBr ≠ ByteArray.empty := fun e => by have := congrArg ByteArray.size e; revert this; decide
  unfold takeF stepS
  split
  · unfold textF textS
    split
    · exact hsame
    · rename_i he
      obtain ⟨a, r, rfl⟩ : ∃ a r, st = a :: r := by have := h.rf.len; cases st with | nil => simp at this | cons u s' => exact ⟨u, s', rfl⟩
      have hput : (if 0 ≤ lastUp x.l (hereR x.op) x.l.length ∧ nameF x.l (lastUp x.l (hereR x.op) x.l.length).toNat = ByteArray.empty then ⟨sayF (lastUp x.l (hereR x.op) x.l.length).toNat t.text x.l, x.op, x.bad⟩ else putF ByteArray.empty [] t.text x : FB) = putF ByteArray.empty [] t.text x → lastText a = false →
          (putF ByteArray.empty [] t.text x).bad = overP (textP t.text (a :: r)) (many + 1) ∧ (overP (textP t.text (a :: r)) (many + 1) = false → Sim (putF ByteArray.empty [] t.text x) (textP t.text (a :: r)) (many + 1)) := fun _ hl => by
        have e1 : textP t.text (a :: r) = a.add (textNode t.text) :: r := by rw [textP, if_neg (by simp [hl])]
        have hq : RF x.op (x.l ++ [⟨ByteArray.empty, [], t.text, hereR x.op⟩]) (a.add (textNode t.text) :: r) := h.rf.put
        have e2 : overP (textP t.text (a :: r)) (many + 1) = decide (2000 < x.l.length + 1) := by
          rw [overP_eq (n := x.l.length) (b := false) (by rw [e1, hq.len]; have := h.deep; simp; omega) h.many, Bool.or_false]
        rw [e2]
        refine ⟨by simp [putF, h.ok], fun hb => ⟨by rw [e1]; exact hq, h.ups.put h.rf.here_lt, by rw [h.many]; simp [putF], h.deep, by simpa [putF, h.ok] using hb⟩⟩
      rcases lastUp_cases x.l (hereR x.op) x.l.length (Nat.le_refl _) with ⟨h1, h2⟩ | ⟨A, f, B, h1, h2, h3, h4⟩
      · rw [List.take_length] at h2
        have hl := h.rf.nolast h2
        rw [if_neg (by rw [h1]; omega)] at hput ⊢
        simp only [hl, Bool.false_eq_true, if_false]
        exact hput rfl hl
      · rw [List.take_length] at h1
        have hrf := h.rf
        have hups := h.ups
        have hm := h.many
        rw [h1] at hrf hups
        obtain ⟨k1, k2⟩ := hrf.lastt hups h3 h4
        have hnm : nameF x.l (lastUp x.l (hereR x.op) x.l.length).toNat = f.name := by rw [h2, Int.toNat_natCast, h1, nameF_at]
        by_cases hf : f.name = ByteArray.empty
        · have hl : lastText a = true := by rw [k1]; simpa using hf
          rw [if_pos ⟨by rw [h2]; omega, by rw [hnm]; exact hf⟩]
          simp only [hl, if_true]
          refine ⟨h.ok, fun _ => ?_⟩
          have hs : sayF (lastUp x.l (hereR x.op) x.l.length).toNat t.text x.l = A ++ f.say (f.text ++ t.text) :: B := by rw [h2, Int.toNat_natCast, h1, sayF_at]
          refine ⟨?_, ?_, ?_, h.deep, h.ok⟩
          · show RF x.op (sayF _ _ x.l) _
            rw [hs]; exact k2 t.text hf
          · show Ups (sayF _ _ x.l)
            rw [hs]; exact hups.say _
          · show many = ((sayF _ _ x.l).length : Nat)
            rw [hm]; simp [sayF]
        · have hl : lastText a = false := by rw [k1]; simpa using hf
          rw [if_neg (by rw [hnm]; exact fun h => hf h.2)] at hput ⊢
          simp only [hl, Bool.false_eq_true, if_false]
          exact hput rfl hl
  · split
    · rename_i hk
      obtain ⟨h1, h2, h3, h4, h5⟩ := h.start t.name t.attrs (hn hk)
      exact ⟨h4, fun ho => ⟨h1, h2, h3, h5 (by rw [h4]; exact ho), by rw [h4]; exact ho⟩⟩
    · split
      · have hi := h.rf.inner [t.name] []
        rw [List.append_nil] at hi
        unfold endF endS
        rw [hi]
        split
        · exact ⟨h.ok, fun _ => ⟨h.rf.close t.name, h.ups, h.many, Nat.le_trans (closeR_len _ _ _) h.deep, h.ok⟩⟩
        · split
          · obtain ⟨h1, h2, h3, h4, h5⟩ := h.start bP [] hp
            exact ⟨h4, fun ho => ⟨h1.close bP, h2, h3, Nat.le_trans (closeR_len _ _ _) (h5 (by rw [h4]; exact ho)), by show (startF bP [] x).bad = false; rw [h4]; exact ho⟩⟩
          · split
            · obtain ⟨h1, h2, h3, h4, h5⟩ := h.start bBr [] hbr
              exact ⟨h4, fun ho => ⟨h1, h2, h3, h5 (by rw [h4]; exact ho), by rw [h4]; exact ho⟩⟩
            · exact hsame
      · exact hsame
/-- The document's builder, over tokens: it stops where it is bad. -/
def goF : List Token → FB → FB
  | [], x => x
  | t :: ts, x => if x.bad = true then x else goF ts (takeF t x)
def buildF (l : List Token) : Option (List Node) := if (goF l ⟨[], [], false⟩).bad = true then none else some (kidsS (goF l ⟨[], [], false⟩).l 0 (-1))
theorem goF_bad {l : List Token} {x : FB} (h : x.bad = true) : goF l x = x := by cases l <;> simp [goF, h]
theorem Sim.go : ∀ (l : List Token) {x : FB} {st : List El} {many : Int}, Sim x st many → (∀ t ∈ l, t.kind = 2 → t.name ≠ ByteArray.empty) →
    (if (goF l x).bad = true then none else some (kidsS (goF l x).l 0 (-1))) = (buildL l st many).map fun st => rootKids (shutN (st.length - 1) st)
  | [], x, st, many, h, _ => by
    rw [goF, buildL, if_neg (by simp [h.ok])]
    have := h.rf.shutN x.op.length (Nat.le_refl _)
    rw [List.drop_length] at this
    obtain ⟨r, h1, h2⟩ := this
    have hl := h.rf.len
    show _ = some (rootKids (Go.Proofs.Ytidicfdcjoggpaa.shutN (st.length - 1) st))
    rw [show st.length - 1 = x.op.length by omega, h1, ← h2]
    rfl
  | t :: ts, x, st, many, h, hn => by
    obtain ⟨h1, h2⟩ := h.step t (hn t (by simp))
    have hg : goF (t :: ts) x = goF ts (takeF t x) := by rw [goF, if_neg (by simp [h.ok])]
    rw [hg, buildL]
    cases ho : (stepS t st many).over
    · simp only [Bool.false_eq_true, if_false]
      exact (h2 ho).go ts (fun t ht => hn t (by simp [ht]))
    · rw [ho] at h1
      rw [goF_bad h1, if_pos h1]
      simp
theorem buildF_eq (l : List Token) (hn : ∀ t ∈ l, t.kind = 2 → t.name ≠ ByteArray.empty) : buildF l = build l := by
  unfold buildF build
  exact Sim.go l (x := ⟨[], [], false⟩) ⟨⟨rootEl, rfl, rfl⟩, Ups.nil, rfl, by simp, rfl⟩ hn
end Go.Proofs.Ytidicfdcjoggpaa
