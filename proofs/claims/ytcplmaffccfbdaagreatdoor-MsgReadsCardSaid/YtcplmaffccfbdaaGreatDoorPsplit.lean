/-
  strings.Split in the abstract machine's words.
-/
import Derived.Test.YtcplmaffccfbdaaGreatDoorPlift
namespace Go.Proofs.YtcplmaffccfbdaaGreatDoor.M
open Go.RowKit
set_option linter.unusedVariables false
set_option linter.unusedSimpArgs false
def splitS (s sep : Str) : List Str := Lib.splitB sep 0 (Lib.countB s sep) s
theorem splitS_len {s sep : Str} (h : 1 ≤ sep.size) : (splitS s sep).length = Lib.countB s sep + 1 := Lib.splitB_all sep h 0 _ s rfl
theorem split_ok {W : World} (L : Laid W) (s sep : Str) (hs : s.size < 4294967281) (h1 : 1 ≤ sep.size) : ACalls Tryz.prog W 56 [.v (.string s), .v (.string sep)] AHeap.none fun v _ => v = .sl true 1 (strRows (splitS s sep)) := by
  intro S w us hw hv
  obtain ⟨u, v, rfl, h2, h3⟩ := hv.of2
  clear hv
  obtain rfl := h2.v_eq
  obtain rfl := h3.v_eq
  obtain ⟨m, hm⟩ := L.mostAt hw
  refine (Lay.strings_Split s sep m w hs hm h1).mono ?_
  rintro e w' ⟨rfl, rfl⟩
  have hlen := splitS_len (s := s) h1
  rw [show (Lib.splitB sep 0 (Lib.countB s sep) s) = splitS s sep from rfl, ← hlen]
  have hcle := Lib.countB_le sep h1 s.size s (Nat.le_refl _)
  have hl2 : (splitS s sep).length ≤ maxLen := by simp only [maxLen]; omega
  generalize splitS s sep = l at hlen hl2 ⊢
  have hold : ∀ b, b < w.heap.size → (w.alloc (.cells (l.map Value.string).toArray 9)).heap[b]? = w.heap[b]? := fun b hb => Below.heap_alloc w _ b hb
  have hnew : (w.alloc (.cells (l.map Value.string).toArray 9)).heap[w.heap.size]? = some (.cells (l.map Value.string).toArray 9 (0, 0)) := by show (w.heap.push _)[w.heap.size]? = _; simp
  have hsz : w.heap.size < (w.alloc (.cells (l.map Value.string).toArray 9)).heap.size := lt_of_some hnew
  refine ⟨_, AHeap.none, fun b => S b ∨ b = w.heap.size, _, rfl, rfl, ⟨by omega, fun b hb _ => hold b hb, fun b m ⟨cur, E, fz, q1, q2⟩ => ⟨cur, E, fz, (hold b (lt_of_some q1)).trans q1, q2⟩, fun b h => .inl h, fun b h => ?_, fun b h => absurd rfl h⟩, ⟨hw.old.alloc hw.old.size _, fun _ _ h => (by cases h), fun b h => ?_, fun _ _ h => (by cases h), fun _ _ h => (by cases h)⟩, ?_⟩
  · rcases h with h | h
    · exact .inl h
    · exact .inr (.inl (by omega))
  · rcases h with h | h
    · have := hw.lt b h; omega
    · omega
  · have hrl : (strRows l).length = l.length := strRows_len l
    rw [← hrl]
    refine .sl (fun i j => (l.map Value.string).getD i undef) (Nat.le_refl _) (by rw [hrl]; exact hl2) (fun _ => rfl) (.inr ⟨w.heap.size, 0, rfl, .inr rfl, fun i j hi hj => ?_⟩) (fun i hi => by simp [strRows, strRow]) (fun i hi j hj => ?_) (fun i hi j hj => ?_)
    · rw [hrl] at hi
      obtain rfl : j = 0 := by omega
      rw [cell_at hnew]
      simp [hi]
    · simp [strRows, strRow] at hj ⊢
      rfl
    · have hi' : i < l.length := by rw [← hrl]; exact hi
      have e : (strRows l)[i] = [.v (.string l[i])] := by simp [strRows, strRow]
      simp only [e] at hj ⊢
      obtain rfl : j = 0 := by simp at hj; omega
      simp [hi']
      exact .v _
end Go.Proofs.YtcplmaffccfbdaaGreatDoor.M
