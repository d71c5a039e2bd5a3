/-
  The library's slices.Index and slices.Contains over strings.
-/
import Derived.Test.YtidicfdcjoggpaaLib
namespace Go.Proofs.Ytidicfdcjoggpaa
open Go.RowKit
set_option linter.unusedVariables false
set_option linter.unusedSimpArgs false
/-- An ending with a whole number for which something holds. -/
def SomeI (Q : Int → Prop) (e : Ending) : Prop := ∃ i : Int, e = .returned (.int .i64 i) ∧ Q i
def Found (xs : List ByteArray) (x : ByteArray) (i : Int) : Prop := decide (0 ≤ i) = decide (x ∈ xs)
theorem strs_at {w : World} {P : FP} {v : Value} {xs : List ByteArray} (h : SliceIs w P v xs) {i : Nat} (hi : i < xs.length) : ∃ b o c, v = .slice (some ⟨b, o, none⟩) xs.length c ∧ ∀ i (h : i < xs.length), w.cell? ⟨b, o + i, none⟩ = some (.string xs[i]) := by
  obtain ⟨b, o, c, e, _, _, _, h⟩ := SliceOf.at_ h (by omega)
  refine ⟨b, o, c, e, fun i hi => ?_⟩
  obtain ⟨cs, ⟨_, hcs⟩, _, hc⟩ := h i hi
  have hcs : cs = [.string xs[i]] := hcs
  subst hcs
  have := hc 0 _ rfl
  simpa [Rep.sz] using this
set_option maxHeartbeats 400000 in
theorem index_any (w : World) (P : FP) (v : Value) (xs : List ByteArray) (x : ByteArray) (h : SliceIs w P v xs) (hl : xs.length ≤ 1000000000) :
    Calls Try.prog 49 #[v, .string x] w fun e w' => SomeI (Found xs x) e ∧ w = w' := by
  obtain ⟨A, c, rfl, _⟩ := h.shape
  have hcell : ∀ i (h : i < xs.length), ∃ b o, A = some ⟨b, o, none⟩ ∧ w.cell? ⟨b, o + i, none⟩ = some (.string xs[i]) := fun i hi => by
    obtain ⟨b, o, c', e, hc⟩ := strs_at h hi
    cases e
    exact ⟨b, o, rfl, hc i hi⟩
  clear h
  go_enter Try.func49, Try.ntmps49
  go_wp2
  go_loop [5, 8] (fun _ i => ∃ k : Nat, k ≤ xs.length ∧ i = .int .i64 k ∧ ∀ j (h : j < k) (h' : j < xs.length), xs[j] ≠ x) (fun _ i => xs.length - (intOf i).toNat)
  case atStart => exact ⟨0, by omega, rfl, fun j h => by omega⟩
  case round =>
    obtain ⟨k, hk, rfl, hno⟩ := hrel
    by_cases hlt : k < xs.length
    · obtain ⟨b, o, rfl, hc⟩ := hcell k hlt
      clear hcell
      have HN := Lib.hid hno
      clear hno
      by_cases hx : x = xs[k]
      · have hb := str_eq hx
        have HX := Lib.hid hx
        clear hx
        go_wp2
        go_ret
        exact ⟨⟨_, rfl, by unfold Found; rw [HX.out]; simp⟩, rfl⟩
      · have hb := str_ne hx
        have HX := Lib.hid hx
        clear hx
        go_wp2
        go_round
        case rel => exact ⟨k + 1, by omega, by go_num, fun j hj h' e => by
          rcases Nat.lt_or_eq_of_le (Nat.lt_succ_iff.1 hj) with h | rfl
          · exact HN.out j h h' e
          · exact HX.out e.symm⟩
        case measure => simp [intOf]; omega
    · have HN := Lib.hid hno
      clear hno
      go_wp2
      go_ret
      refine ⟨⟨_, rfl, ?_⟩, rfl⟩
      unfold Found
      rw [decide_eq_false (by omega), decide_eq_false]
      intro hm
      obtain ⟨j, hj, e⟩ := List.mem_iff_getElem.1 hm
      exact HN.out j (by omega) hj e
set_option maxHeartbeats 400000 in
theorem contains_any (w : World) (P : FP) (v : Value) (xs : List ByteArray) (x : ByteArray) (h : SliceIs w P v xs) (hl : xs.length ≤ 1000000000) :
    Calls Try.prog 46 #[v, .string x] w fun e w' => e = .returned (.bool (decide (x ∈ xs))) ∧ w = w' := by
  have H := Lib.hid h
  clear h
  go_enter Try.func46, Try.ntmps46
  go_wp2_with (go_at_call 49; refine (index_any _ P v xs x H.out hl).mono ?_; rintro e w' ⟨⟨i, rfl, hi⟩, rfl⟩; have HI := Lib.hid hi; clear hi)
  go_ret
  exact ⟨by rw [← HI.out]; rfl, rfl⟩
/-- A slice of texts that was just made. -/
theorem made_strs {w1 : World} {b T n : Nat} {xs : List ByteArray} {cs : Array Value} (hn : n = xs.length) (hb : w1.heap[b]? = some (.cells cs T (0, 0))) (hc : cs.toList = xs.map Value.string) (hm : n ≤ 1000000) : SliceIs w1 (fun k => k = b) (.slice (some ⟨b, 0, none⟩) n n) xs := by
  subst hn
  refine ⟨_, _, rfl, Nat.le_refl _, by unfold maxLen; omega, fun _ => ⟨b, 0, rfl, rfl, fun i hi => ⟨[.string xs[i]], ⟨hi, rfl⟩, rfl, fun j u hu => ?_⟩⟩⟩
  have hj : j = 0 := by have := (List.getElem?_eq_some_iff.1 hu).1; simp at this; omega
  subst hj
  simp at hu
  subst hu
  rw [cell_of_row w1 b _ _ _ _ hb, ← Array.getElem?_toList, hc]
  simp [Rep.sz, hi]
end Go.Proofs.Ytidicfdcjoggpaa
