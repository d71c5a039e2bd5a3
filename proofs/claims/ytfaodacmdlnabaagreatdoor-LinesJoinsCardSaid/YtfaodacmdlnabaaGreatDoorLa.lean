/-
 Lines: texts escaped and read; a script cut into lines; as functions.
-/
import Derived.Test.YtfaodacmdlnabaaGreatDoorPbl
import Derived.Lib.Replace
namespace Go.Proofs.YtfaodacmdlnabaaGreatDoor.M
open Go.RowKit
set_option linter.unusedVariables false
set_option linter.unusedSimpArgs false
def mkS (l : List UInt8) : Str := ⟨l.toArray⟩
theorem mkS_bl (s : Str) : mkS (bl s) = s := by cases s; simp [mkS, bl]
theorem bl_mkS (l : List UInt8) : bl (mkS l) = l := by simp [mkS, bl]
theorem mkS_app (a b : List UInt8) : mkS (a ++ b) = mkS a ++ mkS b := bl_inj (by rw [bl_app, bl_mkS, bl_mkS, bl_mkS])
theorem mkS_size (l : List UInt8) : (mkS l).size = l.length := by rw [← bl_len, bl_mkS]
/-- One byte, wherever it stands, is written anew. -/
def putB (b : UInt8) (new : List UInt8) (l : List UInt8) : List UInt8 := l.flatMap fun c => if c = b then new else [c]
theorem replaceK_putB (b : UInt8) (new : List UInt8) : ∀ l : List UInt8, Lib.replaceK [b] new (Lib.count l [b]) l = putB b new l
 | [] => by rw [Lib.count_miss (by simp [Lib.index])]; rfl
 | c :: l => by
  have ih := replaceK_putB b new l
  by_cases h : c = b
  ·subst h
   have hix : Lib.index (c :: l) [c] = ((0 : Nat) : Int) := by rw [Lib.index]; simp [List.isPrefixOf]
   rw [Lib.count_cons_eq, Nat.add_comm, Lib.replaceK_hit _ _ _ _ 0 hix]
   simp only [List.take_zero, List.nil_append, List.length_cons, List.length_nil, Nat.zero_add, List.drop_succ_cons, List.drop_zero, ih]
   simp [putB]
  ·have hp : ([b] : List UInt8).isPrefixOf (c :: l) = false := by simp [List.isPrefixOf, Ne.symm h]
   have hix : Lib.index (c :: l) [b] = if Lib.index l [b] == -1 then -1 else Lib.index l [b] + 1 := by rw [Lib.index, hp]; simp
   have hput : putB b new (c :: l) = c :: putB b new l := by simp [putB, h]
   rw [Lib.count_cons_ne c b l h, hput, ← ih]
   by_cases hm : Lib.index l [b] = -1
   ·rw [Lib.count_miss hm]; rfl
   ·have hge := Lib.index_ge l [b]
    obtain ⟨j, hj⟩ : ∃ j : Nat, Lib.index l [b] = j := ⟨(Lib.index l [b]).toNat, by omega⟩
    have hm1 : ¬ (Lib.index l [b] == -1) = true := fun e => hm (beq_iff_eq.1 e)
    have hix' : Lib.index (c :: l) [b] = ((j + 1 : Nat) : Int) := by rw [hix, if_neg hm1, hj]; omega
    rw [Lib.count_hit (by simp) hj, Nat.add_comm, Lib.replaceK_hit _ _ _ _ _ hix', Lib.replaceK_hit _ _ _ _ _ hj]
    simp [Nat.add_right_comm]
theorem replaceAll_putB (b : UInt8) (new l : List UInt8) (hne : new ≠ [b]) : Lib.replaceAll l [b] new = putB b new l := by
 unfold Lib.replaceAll Lib.replace Lib.replaceNum
 have h1 : ¬ (([b] : List UInt8) == new) = true := fun e => hne (beq_iff_eq.1 e).symm
 rw [if_neg h1, if_pos (.inl (by decide)), replaceK_putB]
theorem putB_len (b : UInt8) (new : List UInt8) (h : new.length ≤ 2) : ∀ l : List UInt8, (putB b new l).length ≤ 2 * l.length
 | [] => Nat.zero_le _
 | c :: l => by
  have ih := putB_len b new h l
  unfold putB at ih ⊢
  rw [List.flatMap_cons, List.length_append, List.length_cons]
  split
  ·omega
  ·simp only [List.length_cons, List.length_nil]; omega
/-- A byte, escaped. -/
def escB (c : UInt8) : List UInt8 := if c = 92 then [92, 92] else if c = 10 then [92, 110] else [c]
def escL (l : List UInt8) : List UInt8 := l.flatMap escB
def escS (s : Str) : Str := mkS (escL (bl s))
theorem escL_two : ∀ l : List UInt8, putB 10 [92, 110] (putB 92 [92, 92] l) = escL l
 | [] => rfl
 | c :: l => by
  have ih := escL_two l
  unfold putB escL at ih ⊢
  rw [List.flatMap_cons, List.flatMap_append, ih, List.flatMap_cons]
  congr 1
  unfold escB
  by_cases h : c = 92
  ·subst h; rfl
  ·rw [if_neg h, if_neg h]
   by_cases h2 : c = 10
   ·subst h2; rfl
   ·rw [if_neg h2]; simp [h2]
theorem escL_len (l : List UInt8) : (escL l).length ≤ 2 * l.length := by
 induction l with
 | nil => simp [escL]
 | cons c l ih =>
  have : (escB c).length ≤ 2 := by unfold escB; split <;> (try split) <;> simp
  unfold escL at ih ⊢
  rw [List.flatMap_cons, List.length_append, List.length_cons]; omega
theorem escL_no (l : List UInt8) : (10 : UInt8) ∉ escL l := by
 intro h
 unfold escL at h
 obtain ⟨c, _, hc⟩ := List.mem_flatMap.1 h
 unfold escB at hc
 split at hc
 ·simp at hc
 ·split at hc
  ·simp at hc
  ·rename_i h2; simp at hc; exact h2 hc.symm
/-- What was escaped. -/
def plainL : List UInt8 → Option (List UInt8)
 | [] => some []
 | 92 :: [] => none
 | 92 :: d :: r => if d = 110 then (plainL r).map (10 :: ·) else if d = 92 then (plainL r).map (92 :: ·) else none
 | c :: r => (plainL r).map (c :: ·)
theorem plainL_ne {c : UInt8} {r : List UInt8} (h : c ≠ 92) : plainL (c :: r) = (plainL r).map (c :: ·) := by
 rw [plainL.eq_def]
 split
 ·rename_i e; cases e
 ·rename_i e; cases e; exact absurd rfl h
 ·rename_i e; cases e; exact absurd rfl h
 ·rename_i e; cases e; rfl
theorem plain_esc : ∀ l : List UInt8, plainL (escL l) = some l
 | [] => rfl
 | c :: l => by
  have ih := plain_esc l
  have hc : escL (c :: l) = escB c ++ escL l := by unfold escL; rw [List.flatMap_cons]
  rw [hc]
  unfold escB
  by_cases h : c = 92
  ·subst h
   show plainL (92 :: 92 :: escL l) = _
   rw [plainL, if_neg (by decide), if_pos rfl, ih]; rfl
  ·rw [if_neg h]
   by_cases h2 : c = 10
   ·subst h2
    show plainL (92 :: 110 :: escL l) = _
    rw [plainL, if_pos rfl, ih]; rfl
   ·rw [if_neg h2]
    show plainL (c :: escL l) = _
    rw [plainL_ne h, ih]; rfl
theorem plainL_skip : ∀ (h : List UInt8) (r : List UInt8), (92 : UInt8) ∉ h → plainL (h ++ r) = (plainL r).map (h ++ ·)
 | [], r, _ => by simp
 | c :: h, r, hn => by
  have h1 : c ≠ 92 := fun e => hn (by simp [e])
  rw [List.cons_append, plainL_ne h1, plainL_skip h r (fun e => hn (by simp [e]))]
  cases plainL r <;> rfl
/-- What Cut gives at one byte. -/
theorem cut_byte (b : UInt8) (l : List UInt8) : ((Lib.cut l [b]) = (l, [], false) ∧ b ∉ l) ∨ ∃ h t, l = h ++ b :: t ∧ b ∉ h ∧ Lib.cut l [b] = (h, t, true) := by
 unfold Lib.cut
 rw [Lib.index_one]
 by_cases h0 : 0 ≤ Lib.indexByte l b
 ·right
  obtain ⟨o, ho⟩ : ∃ o : Nat, Lib.indexByte l b = o := ⟨(Lib.indexByte l b).toNat, by omega⟩
  obtain ⟨h1, h2⟩ := Lib.indexByte_some ho
  obtain ⟨hlt, hget⟩ := List.getElem?_eq_some_iff.1 h1
  refine ⟨l.take o, l.drop (o + 1), ?_, fun hm => ?_, ?_⟩
  ·rw [← hget, ← List.drop_eq_getElem_cons hlt, List.take_append_drop]
  ·obtain ⟨k, hk, e⟩ := List.mem_iff_getElem.1 hm
   simp at hk
   refine h2 k (by omega) ?_
   rw [List.getElem?_eq_getElem (by omega)]
   simpa using e
  ·rw [if_pos h0, ho]; rfl
 ·left
  rw [if_neg h0]
  have hge := Lib.indexByte_ge l b
  have hn := Lib.indexByte_none (show Lib.indexByte l b = -1 by omega)
  refine ⟨rfl, fun hm => ?_⟩
  obtain ⟨k, hk, e⟩ := List.mem_iff_getElem.1 hm
  exact hn k (by rw [List.getElem?_eq_getElem hk, e])
/-- A script's steps: each line is one, and ends; else in which line it fails. -/
def parseL {α : Type} (st : List UInt8 → Option α) : Nat → List UInt8 → List α → Except Nat (List α)
 | 0, _, out => .error out.length
 | n + 1, l, out => if l = [] then .ok out else
  if (Lib.cut l [10]).2.2 = true then match st (Lib.cut l [10]).1 with
   | some x => parseL st n (Lib.cut l [10]).2.1 (out ++ [x])
   | none => .error out.length
  else .error out.length
theorem cut_shorter {l h t : List UInt8} {b : UInt8} (e : l = h ++ b :: t) : t.length < l.length := by rw [e]; simp; omega
theorem parseL_fuel {α : Type} (st : List UInt8 → Option α) : ∀ (n m : Nat) (l : List UInt8) (out : List α), l.length < n → l.length < m → parseL st n l out = parseL st m l out
 | 0, m, l, out, h, _ => by omega
 | n + 1, 0, l, out, _, h => by omega
 | n + 1, m + 1, l, out, hn, hm => by
  rw [parseL, parseL]
  by_cases h0 : l = []
  ·rw [if_pos h0, if_pos h0]
  ·rw [if_neg h0, if_neg h0]
   rcases cut_byte 10 l with ⟨e, _⟩ | ⟨h, t, e1, e2, e3⟩
   ·rw [e]; rfl
   ·rw [e3, if_pos rfl, if_pos rfl]
    dsimp only
    cases st h with
    | none => rfl
    | some x =>
     have := cut_shorter e1
     exact parseL_fuel st n m t _ (by omega) (by omega)
def parseS {α : Type} (st : List UInt8 → Option α) (l : List UInt8) : Except Nat (List α) := parseL st (l.length + 1) l []
theorem parseL_step {α : Type} (st : List UInt8 → Option α) {h t : List UInt8} (hn : (10 : UInt8) ∉ h) {x : α} (hx : st h = some x) (n : Nat) (out : List α) : parseL st (n + 1) (h ++ 10 :: t) out = parseL st n t (out ++ [x]) := by
 have hc : Lib.cut (h ++ 10 :: t) [10] = (h, t, true) := by
  rcases cut_byte 10 (h ++ 10 :: t) with ⟨_, e⟩ | ⟨h', t', e1, e2, e3⟩
  ·exact absurd (by simp) e
  ·obtain ⟨rfl, rfl⟩ : h' = h ∧ t' = t := by
    rcases List.append_eq_append_iff.1 e1 with ⟨a, h1, h2⟩ | ⟨a, h1, h2⟩
    ·cases a with
     | nil => simp at h1 h2; exact ⟨h1, h2.symm⟩
     | cons y a => simp at h2; exact absurd (by rw [h1, ← h2.1]; simp) e2
    ·cases a with
     | nil => simp at h1 h2; exact ⟨h1.symm, h2⟩
     | cons y a => simp at h2; exact absurd (by rw [h1, ← h2.1]; simp) hn
   exact e3
 rw [parseL, if_neg (by simp), hc, if_pos rfl]
 dsimp only
 rw [hx]
/-- Two scripts, one behind the other. -/
theorem parse_join {α : Type} (st : List UInt8 → Option α) : ∀ (n : Nat) (a b : List UInt8) (out r : List α) (m : Nat), a.length < n → (a ++ b).length < m → parseL st n a out = .ok r → parseL st m (a ++ b) out = parseL st m b r
 | 0, a, b, out, r, m, h, _, _ => by omega
 | n + 1, a, b, out, r, 0, _, h, _ => by omega
 | n + 1, a, b, out, r, m + 1, hn, hm, hok => by
  rw [parseL] at hok
  by_cases h0 : a = []
  ·rw [if_pos h0] at hok
   cases hok
   rw [h0, List.nil_append]
  ·rw [if_neg h0] at hok
   rcases cut_byte 10 a with ⟨e, _⟩ | ⟨h, t, e1, e2, e3⟩
   ·rw [e] at hok
    rw [if_neg (by simp)] at hok
    cases hok
   ·rw [e3, if_pos rfl] at hok
    dsimp only at hok
    cases hx : st h with
    | none => rw [hx] at hok; cases hok
    | some x =>
     rw [hx] at hok
     dsimp only at hok
     have hsh := cut_shorter e1
     have hlen : (a ++ b).length = a.length + b.length := by simp
     have hlen2 : (t ++ b).length = t.length + b.length := by simp
     rw [e1, List.append_assoc, List.cons_append, parseL_step st e2 hx m out]
     rw [parse_join st n t b _ r m (by omega) (by omega) hok]
     exact parseL_fuel st _ _ _ _ (by omega) (by omega)
end Go.Proofs.YtfaodacmdlnabaaGreatDoor.M
