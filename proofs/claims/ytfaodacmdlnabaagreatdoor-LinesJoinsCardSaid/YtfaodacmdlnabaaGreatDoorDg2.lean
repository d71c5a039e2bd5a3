/-
 Layer 16: a list's copy; a text put into its place in a list that rises; what the document says a list lacks, and what two join to.
-/
import Derived.Test.YtfaodacmdlnabaaGreatDoorDg1
import Derived.Test.YtfaodacmdlnabaaGreatDoorMS
namespace Go.Proofs.YtfaodacmdlnabaaGreatDoor.M
open Go.RowKit
set_option linter.unusedVariables false
set_option linter.unusedSimpArgs false
def c_Clone : AFn := ⟨1, 8, [2],
 .seq (.ops [oq 2 (.mv (.const (.slice none 0 0)))])
 (.seq (.seq (.ops [oq 3 (.mv (.tmp 0)),
   oe 4 (.niq false (.tmp 3))])
 (.cond (.tmp 4)
  (.seq (.ops [oq 2 (.mv (.const (.slice none 0 0)))])
  (.ret))
  (.skip)))
 (.seq (.ops [oe 5 (.bsl 9 1 []),
   oq 6 (.mv (.tmp 0)),
   oe 7 (.app 9 1 16 false (.tmp 5) (.tmp 6)),
   oq 2 (.mv (.tmp 7))])
 (.ret))), []⟩
theorem k_Clone : compF Tryz.prog 164 = some c_Clone := by kernel_rfl
theorem clone_ok {W : World} (f : Bool) (l : List Str) (hl : l.length ≤ 1000000) : ACalls Tryz.prog W 164 [.sl f 1 (strRows l)] AHeap.none (fun r _ => r = .sl false 1 (strRows l)) := by
 refine fn_run follows k_Clone rfl ?_
 simp only [oq, og, oe, oh, on, c_Clone, aretC_nil, List.zipIdx_cons, List.zipIdx_nil, List.map_cons, List.map_nil, Nat.zero_add]
 (try simp +decide -implicitDefEqProofs only [go_sem])
 intro t ht
 cases t
 ·(try simp +decide -implicitDefEqProofs only [go_sem, Bool.false_eq_true, false_implies])
  refine stk_app (rows := []) (by exact Row.sl _) (by rfl) (by rw [strRows_len]; simp; omega) fun x' H' hr _ => ?_
  (try simp +decide -implicitDefEqProofs only [go_sem])
  refine aret_row (E := 9) (rows := strRows l) (.inr rfl) ?_ (strGood l) rfl
  simpa +decide only [retOf, tget, if_true, if_false, ↓reduceIte, List.nil_append] using hr
 ·have e : l = [] := by simpa [strRows] using ht rfl
  subst e
  (try simp +decide -implicitDefEqProofs only [go_sem])
  exact aret_row (E := 9) (rows := strRows []) (.inr rfl) (by simp +decide only [retOf, tget, if_true, if_false, ↓reduceIte]; exact Row.nil) (strGood []) rfl
/-- A text's place. -/
def placeS : List Str → Str → Nat
 | [], _ => 0
 | y :: l, x => if Lt y x then placeS l x + 1 else 0
def putS (l : List Str) (x : Str) : List Str := if l.getD (placeS l x) ByteArray.empty = x ∧ placeS l x < l.length then l else l.take (placeS l x) ++ [x] ++ l.drop (placeS l x)
theorem place_le : ∀ (l : List Str) (x : Str), placeS l x ≤ l.length
 | [], _ => Nat.le_refl _
 | y :: l, x => by unfold placeS; split; · simp [place_le l x]
                   · simp
theorem place_lt : ∀ (l : List Str) (x : Str) (i : Nat), i < placeS l x → Lt (l.getD i ByteArray.empty) x
 | [], _, i, h => by simp [placeS] at h
 | y :: l, x, i, h => by
  unfold placeS at h
  split at h
  ·rename_i hy
   cases i with
   | zero => exact hy
   | succ i => simpa using place_lt l x i (by omega)
  ·omega
theorem place_not : ∀ (l : List Str) (x : Str), placeS l x < l.length → ¬ Lt (l.getD (placeS l x) ByteArray.empty) x
 | [], _, h => by simp at h
 | y :: l, x, h => by
  unfold placeS at h ⊢
  split
  ·rename_i hy
   rw [if_pos hy] at h
   simp only [List.length_cons] at h
   simpa using place_not l x (by omega)
  ·rename_i hy; simpa using hy
theorem place_at {l : List Str} {x : Str} {i : Nat} (hi : i ≤ l.length) (h1 : ∀ j, j < i → Lt (l.getD j ByteArray.empty) x) (h2 : i < l.length → ¬ Lt (l.getD i ByteArray.empty) x) : placeS l x = i := by
 rcases Nat.lt_trichotomy (placeS l x) i with h | h | h
 ·exact absurd (h1 _ h) (place_not l x (by omega))
 ·exact h
 ·have := place_le l x
  exact absurd (place_lt l x i h) (h2 (by omega))
def lacksS (has other : List Str) : List Str := other.foldl (fun out x => if x ∈ has then out else putS out x) []
theorem putS_len (l : List Str) (x : Str) : (putS l x).length ≤ l.length + 1 := by
 unfold putS
 split
 ·omega
 ·have := place_le l x
  simp; omega
theorem foldl_take_succ {α β : Type} (f : α → β → α) (a : α) (l : List β) (i : Nat) (d : β) (h : i < l.length) : (l.take (i + 1)).foldl f a = f ((l.take i).foldl f a) (l.getD i d) := by
 rw [List.take_succ_eq_append_getElem h, List.foldl_append]; simp [h]
theorem lacks_len (has : List Str) (l : List Str) : (lacksS has l).length ≤ l.length := by
 have key : ∀ (l : List Str) (a : List Str), (l.foldl (fun out x => if x ∈ has then out else putS out x) a).length ≤ a.length + l.length := by
  intro l
  induction l with
  | nil => intro a; simp
  | cons x l ih =>
   intro a
   simp only [List.foldl_cons, List.length_cons]
   have := ih (if x ∈ has then a else putS a x)
   have h2 := putS_len a x
   split at this <;> rename_i h <;> simp only [h, if_true, if_false] <;> omega
 simpa [lacksS] using key l []
def dgJoin (a b : List Str) : List Str := b.foldl putS (a.foldl putS [])
theorem fold_len (l : List Str) : ∀ a : List Str, (l.foldl putS a).length ≤ a.length + l.length := by
 induction l with
 | nil => intro a; simp
 | cons x l ih =>
  intro a
  have := ih (putS a x)
  have h2 := putS_len a x
  simp only [List.foldl_cons, List.length_cons]
  omega
end Go.Proofs.YtfaodacmdlnabaaGreatDoor.M
