/-
 strings.Split in the abstract machine's words.
-/
import Derived.Test.YtfaodacmdlnabaaGreatDoorPlift
namespace Go.Proofs.YtfaodacmdlnabaaGreatDoor.M
open Go.RowKit
set_option linter.unusedVariables false
set_option linter.unusedSimpArgs false
def splitS (s sep : Str) : List Str := Lib.splitB sep 0 (Lib.countB s sep) s
theorem splitS_len {s sep : Str} (h : 1 ≤ sep.size) : (splitS s sep).length = Lib.countB s sep + 1 := Lib.splitB_all sep h 0 _ s rfl
theorem splitB_size (sep : ByteArray) : ∀ (k : Nat) (s : ByteArray), ∀ x ∈ Lib.splitB sep 0 k s, x.size ≤ s.size
 | 0, s, x, h => by
  rw [List.mem_singleton.1 h]; exact Nat.le_refl _
 | k + 1, s, x, h => by
  unfold Lib.splitB at h
  split at h
  ·rw [List.mem_singleton.1 h]; exact Nat.le_refl _
  ·rcases List.mem_cons.1 h with rfl | h
   ·rw [ByteArray.size_extract]; omega
   ·have := splitB_size sep k _ x h
    rw [ByteArray.size_extract] at this; omega
theorem splitS_size {s sep x : Str} (h : x ∈ splitS s sep) : x.size ≤ s.size := splitB_size sep _ s x h
theorem splitS_len_le {s sep : Str} (h : 1 ≤ sep.size) : (splitS s sep).length ≤ s.size + 1 := by
 rw [splitS_len h]
 have := Lib.countB_le sep h s.size s (Nat.le_refl _)
 omega
theorem joinS_most (m : Nat) (sep : Str) (ws : List Str) (h : ∀ s ∈ ws, s.size ≤ m) : (joinS ws sep).size ≤ ws.length * (m + sep.size) := by
 have key : ∀ l : List Str, (∀ s ∈ l, s.size ≤ m) → (Lib.joinTail sep.data.toList (l.map (·.data.toList))).length ≤ l.length * (m + sep.size) := by
  intro l
  induction l with
  | nil => intro _; simp [Lib.joinTail]
  | cons a l ih =>
   intro h
   have h1 := ih (fun s hs => h s (by simp [hs]))
   have h2 := h a (by simp)
   have h3 : a.data.toList.length = a.size := by rw [Array.length_toList]; rfl
   have h4 : sep.data.toList.length = sep.size := by rw [Array.length_toList]; rfl
   unfold Lib.joinTail at h1 ⊢
   simp only [List.map_cons, List.flatten_cons, List.length_append, List.length_cons, Nat.add_mul, Nat.one_mul] at h1 ⊢
   omega
 have hz : (joinS ws sep).size = (Lib.join (ws.map (·.data.toList)) sep.data.toList).length := by
  show (Lib.join (ws.map (·.data.toList)) sep.data.toList).toArray.size = _
  simp
 rw [hz]
 cases ws with
 | nil => simp [Lib.join_nil]
 | cons a l =>
  have h1 := key l (fun s hs => h s (by simp [hs]))
  have h2 := h a (by simp)
  have h3 : a.data.toList.length = a.size := by rw [Array.length_toList]; rfl
  rw [List.map_cons, Lib.join_cons, List.length_append, h3, List.length_cons, Nat.add_mul, Nat.one_mul]
  omega
theorem split_ok {W : World} (L : Laid W) (s sep : Str) (hs : s.size < 4294967281) (h1 : 1 ≤ sep.size) : ACalls Tryz.prog W 67 [.v (.string s), .v (.string sep)] AHeap.none fun v _ => v = .sl true 1 (strRows (splitS s sep)) := by
 intro S w us hw hv
 obtain ⟨u, v, rfl, h2, h3⟩ := hv.of2
 clear hv
 obtain rfl := h2.v_eq
 obtain rfl := h3.v_eq
 obtain ⟨m, hm⟩ := L.mostAt hw
 refine (Lay.strings_Split s sep m w hs hm h1).mono ?_
 rintro e w' ⟨rfl, rfl⟩
 have hlen := splitS_len (s := s) h1
 rw [show (Lib.splitB sep 0 (Lib.countB s sep) s) = splitS s sep from rfl, ← hlen]
 have hcle := Lib.countB_le sep h1 s.size s (Nat.le_refl _)
 have hl2 : (splitS s sep).length ≤ maxLen := by simp only [maxLen]; omega
 generalize splitS s sep = l at hlen hl2 ⊢
 have hold : ∀ b, b < w.heap.size → (w.alloc (.cells (l.map Value.string).toArray 9)).heap[b]? = w.heap[b]? := fun b hb => Below.heap_alloc w _ b hb
 have hnew : (w.alloc (.cells (l.map Value.string).toArray 9)).heap[w.heap.size]? = some (.cells (l.map Value.string).toArray 9 (0, 0)) := by show (w.heap.push _)[w.heap.size]? = _; simp
 have hsz : w.heap.size < (w.alloc (.cells (l.map Value.string).toArray 9)).heap.size := lt_of_some hnew
 refine ⟨_, AHeap.none, fun b => S b ∨ b = w.heap.size, _, rfl, rfl, ⟨by omega, fun b hb _ => hold b hb, fun b m ⟨cur, E, fz, q1, q2⟩ => ⟨cur, E, fz, (hold b (lt_of_some q1)).trans q1, q2⟩, fun b h => .inl h, fun b h => ?_, fun b h => absurd rfl h⟩, ⟨hw.old.alloc hw.old.size _, fun _ _ h => (by cases h), fun b h => ?_, fun _ _ h => (by cases h), fun _ _ h => (by cases h)⟩, ?_⟩
 ·rcases h with h | h
  ·exact .inl h
  ·exact .inr (.inl (by omega))
 ·rcases h with h | h
  ·have := hw.lt b h; omega
  ·omega
 ·have hrl : (strRows l).length = l.length := strRows_len l
  rw [← hrl]
  refine .sl (fun i j => (l.map Value.string).getD i undef) (Nat.le_refl _) (by rw [hrl]; exact hl2) (fun _ => rfl) (.inr ⟨w.heap.size, 0, rfl, .inr rfl, fun i j hi hj => ?_⟩) (fun i hi => by simp [strRows, strRow]) (fun i hi j hj => ?_) (fun i hi j hj => ?_)
  ·rw [hrl] at hi
   obtain rfl : j = 0 := by omega
   rw [cell_at hnew]
   simp [hi]
  ·simp [strRows, strRow] at hj ⊢
   rfl
  ·have hi' : i < l.length := by rw [← hrl]; exact hi
   have e : (strRows l)[i] = [.v (.string l[i])] := by simp [strRows, strRow]
   simp only [e] at hj ⊢
   obtain rfl : j = 0 := by simp at hj; omega
   simp [hi']
   exact .v _
end Go.Proofs.YtfaodacmdlnabaaGreatDoor.M
