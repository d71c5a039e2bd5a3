/-
  versoref04: which names a list has; which elements are void, which are blocks.
-/
import Derived.Test.YtidicfdcjoggpaaSlices
import Derived.Test.YtidicfdcjoggpaaDomVoid
namespace Go.Proofs.Ytidicfdcjoggpaa
open Go.RowKit
set_option linter.unusedVariables false
set_option linter.unusedSimpArgs false
set_option maxHeartbeats 400000 in
theorem has4_any (w : World) (P : FP) (v : Value) (xs : List ByteArray) (x : ByteArray) (h : SliceIs w P v xs) :
    Calls Try.prog 34 #[v, .string x] w fun e w' => BoolIs (decide (x ∈ xs)) e ∧ w = w' := by
  obtain ⟨A, c, rfl, hlc, hcm⟩ := h.shape
  unfold maxLen at hcm
  have hcell : ∀ i (h : i < xs.length), ∃ b o, A = some ⟨b, o, none⟩ ∧ w.cell? ⟨b, o + i, none⟩ = some (.string xs[i]) := fun i hi => by
    obtain ⟨b, o, c', e, hc⟩ := strs_at h hi
    cases e
    exact ⟨b, o, rfl, hc i hi⟩
  clear h
  go_enter Try.func34, Try.ntmps34
  go_wp2
  go_loop [5] (fun i => ∃ k : Nat, k ≤ xs.length ∧ i = .int .i64 k ∧ ∀ j (h : j < k) (h' : j < xs.length), xs[j] ≠ x) (fun i => xs.length - (intOf i).toNat)
  case atStart => exact ⟨0, by omega, rfl, fun j h => by omega⟩
  case round =>
    obtain ⟨k, hk, rfl, hno⟩ := hrel
    by_cases hlt : k < xs.length
    · obtain ⟨b, o, rfl, hc⟩ := hcell k hlt
      clear hcell
      have HN := Lib.hid hno
      clear hno
      by_cases hx : xs[k] = x
      · have hb := str_eq hx
        have HX := Lib.hid hx
        clear hx
        go_wp2
        go_ret
        exact ⟨by show BoolIs _ _; rw [decide_eq_true (by rw [← HX.out]; exact List.getElem_mem hlt)]; rfl, rfl⟩
      · have hb := str_ne hx
        have HX := Lib.hid hx
        clear hx
        go_wp2
        go_round
        case rel => exact ⟨k + 1, by omega, by go_num, fun j hj h' e => by
          rcases Nat.lt_or_eq_of_le (Nat.lt_succ_iff.1 hj) with h | rfl
          · exact HN.out j h h' e
          · exact HX.out e⟩
        case measure => simp [intOf]; omega
    · have HN := Lib.hid hno
      clear hno
      go_wp2
      go_ret
      refine ⟨?_, rfl⟩
      show BoolIs _ _
      rw [decide_eq_false]
      · rfl
      · intro hm
        obtain ⟨j, hj, e⟩ := List.mem_iff_getElem.1 hm
        exact HN.out j (by omega) hj e
def bs (l : List (List UInt8)) : List ByteArray := l.map fun x => ⟨x.toArray⟩
theorem anyOf_mem (l : List (List UInt8)) (s : ByteArray) : anyOf l s = decide (s ∈ bs l) := by
  induction l with
  | nil => simp [anyOf, bs]
  | cons x l ih =>
    rw [anyOf_cons, ih, lit_eq]
    simp [bs]
set_option maxHeartbeats 2000000 in
theorem refVoid_any (w : World) (name : ByteArray) : Calls Try.prog 18 #[.string name] w fun e w' => BoolIs (isVoid name) e ∧ Upd None w w' := by
  have he : isVoid name = decide (name ∈ bs voids) := anyOf_mem _ _
  rw [he]
  clear he
  go_enter Try.func18, Try.ntmps18
  go_wp2_with (go_at_call 34; refine (has4_any _ _ _ (bs voids) name (made_strs (n := 14) (xs := bs voids) rfl (heap_alloc_at rfl) (by simp only [bs, voids, blocks, List.map_cons, List.map_nil]) (by omega))).mono ?_; rintro e w' ⟨rfl, rfl⟩)
  go_ret
  exact ⟨rfl, by repeat (first | with_reducible exact Upd.refl _ _ | (with_reducible refine Upd.drewN ?_ _) | (with_reducible refine Upd.drew ?_) | (with_reducible refine Upd.alloc ?_ _))⟩
end Go.Proofs.Ytidicfdcjoggpaa
