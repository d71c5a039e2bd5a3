/-
  What comes of elements that are begun and not ended, and of void ones side by side.
-/
import Derived.Test.YtidicfdcjoggpaaDomBesideLaw
import Derived.Test.YtidicfdcjoggpaaDomSize
namespace Go.Proofs.Ytidicfdcjoggpaa
open Go.RowKit
set_option linter.unusedVariables false
set_option linter.unusedSimpArgs false
def nest : Nat → List Node
  | 0 => []
  | n + 1 => [⟨bB, [], ByteArray.empty, nest n⟩]
theorem startP_b (s : List El) : startP bB [] s = ⟨bB, [], []⟩ :: s := by
  have h1 : isBlock bB = false := by kernel_rfl
  have h2 : decide (bB = bLi) = false := by kernel_rfl
  have h3 : isVoid bB = false := by kernel_rfl
  unfold startP afterLi afterBlock liOver laid
  simp [h1, h2, h3]
theorem deep_buildL : ∀ (n : Nat) (st : List El) (many : Int), 0 ≤ many → st.length + n ≤ 65 → many + n ≤ 2000 → buildL (List.replicate n (tokStart bB)) st many = some (List.replicate n ⟨bB, [], []⟩ ++ st)
  | 0, st, many, _, _, _ => by simp [buildL]
  | n + 1, st, many, h0, h1, h2 => by
    have ho : overP (⟨bB, [], []⟩ :: st) (many + 1) = false := by
      unfold overP
      rw [decide_eq_false (by simp only [List.length_cons]; omega), decide_eq_false (by omega)]; rfl
    have ih := deep_buildL n (⟨bB, [], []⟩ :: st) (many + 1) (by omega) (by simp only [List.length_cons]; omega) (by omega)
    simp only [List.replicate_succ, buildL, step_start, startP_b, ho, Bool.false_eq_true, if_false, ih]
    rw [← List.singleton_append, ← List.append_assoc, ← List.replicate_succ', List.replicate_succ]
theorem deep_over : ∀ (n : Nat) (st : List El) (many : Int), 0 ≤ many → 65 < st.length + n → st.length ≤ 65 → buildL (List.replicate n (tokStart bB)) st many = none
  | 0, st, many, _, h1, h2 => by omega
  | n + 1, st, many, h0, h1, h2 => by
    simp only [List.replicate_succ, buildL, step_start, startP_b]
    by_cases ho : overP (⟨bB, [], []⟩ :: st) (many + 1) = true
    · rw [if_pos ho]
    · rw [if_neg ho]
      have hl : st.length + 1 ≤ 65 := by
        apply Classical.byContradiction
        intro h
        apply ho
        unfold overP
        rw [decide_eq_true (by simp only [List.length_cons]; omega)]; rfl
      exact deep_over n _ _ (by omega) (by simp only [List.length_cons]; omega) (by simp only [List.length_cons]; omega)
theorem shut_nest : ∀ (n j : Nat), shutN n (⟨bB, [], nest j⟩ :: (List.replicate (n - 1) ⟨bB, [], []⟩ ++ [rootOf []])) = if n = 0 then ⟨bB, [], nest j⟩ :: (List.replicate (n - 1) ⟨bB, [], []⟩ ++ [rootOf []]) else [rootOf (nest (n + j))]
  | 0, j => rfl
  | 1, j => by
    simp [shutN, shutP, rootOf, El.add, El.node, Nat.add_comm 1 j, nest]
  | n + 2, j => by
    have ih := shut_nest (n + 1) (j + 1)
    simp only [Nat.add_sub_cancel, Nat.succ_ne_zero, if_false, Nat.add_eq_zero_iff, Nat.one_ne_zero, and_false] at ih ⊢
    rw [shutN, show n + 2 - 1 = n + 1 from rfl, List.replicate_succ, List.cons_append]
    have : shutP (⟨bB, [], nest j⟩ :: (⟨bB, [], []⟩ :: (List.replicate n ⟨bB, [], []⟩ ++ [rootOf []]))) = ⟨bB, [], nest (j + 1)⟩ :: (List.replicate n ⟨bB, [], []⟩ ++ [rootOf []]) := by
      simp [shutP, El.add, El.node, nest]
    rw [this, ih]
    rw [show n + 1 + (j + 1) = n + 2 + j by omega]
theorem deep_build {n : Nat} (h : n ≤ 64) : build (List.replicate n (tokStart bB)) = some (nest n) := by
  unfold build
  rw [show rootEl = rootOf [] from rfl, deep_buildL n [rootOf []] 0 (by omega) (by simp; omega) (by omega)]
  cases n with
  | zero => rfl
  | succ n =>
    have := shut_nest (n + 1) 0
    simp only [Nat.add_sub_cancel, Nat.succ_ne_zero, if_false, nest] at this
    simp only [Option.map_some, List.replicate_succ, List.cons_append, List.length_cons, List.length_append, List.length_replicate, List.length_nil, Nat.add_sub_cancel]
    rw [show n + (0 + 1) = n + 1 by omega, this]
    rfl
theorem deep_none {n : Nat} (h : 64 < n) : build (List.replicate n (tokStart bB)) = none := by
  unfold build
  rw [show rootEl = rootOf [] from rfl, deep_over n [rootOf []] 0 (by omega) (by simp; omega) (by simp)]
  rfl
theorem nest_count : ∀ n, nCount (nest n) = n ∧ nDeep (nest n) = n
  | 0 => ⟨by rw [nest, nCount_nil], by rw [nest, nDeep_nil]⟩
  | n + 1 => by
    obtain ⟨h1, h2⟩ := nest_count n
    have hb : ¬ (bB = ByteArray.empty) := by decide
    constructor
    · rw [nest, nCount_cons, nCount_nil, h1]; omega
    · rw [nest, nDeep_cons, nDeep_nil]
      simp only [if_neg hb, h2]; omega
def brNode : Node := ⟨bBr, [], ByteArray.empty, []⟩
theorem startP_br (ks : List Node) : startP bBr [] [rootOf ks] = [rootOf (ks ++ [brNode])] := by kernel_rfl
theorem br_buildL : ∀ (n : Nat) (ks : List Node) (many : Int), 0 ≤ many → buildL (List.replicate n (tokStart bBr)) [rootOf ks] many = if n = 0 ∨ many + n ≤ 2000 then some [rootOf (ks ++ List.replicate n brNode)] else none
  | 0, ks, many, _ => by simp [buildL]
  | n + 1, ks, many, h0 => by
    have hov : overP [rootOf (ks ++ [brNode])] (many + 1) = decide (2000 < many + 1) := by simp [overP]
    simp only [List.replicate_succ, buildL, step_start, startP_br, hov]
    by_cases h : 2000 < many + 1
    · rw [if_pos (by simpa using h), if_neg (by omega)]
    · rw [if_neg (by simpa using h), br_buildL n (ks ++ [brNode]) (many + 1) (by omega)]
      by_cases h2 : n = 0
      · subst h2; simp; omega
      · by_cases h3 : many + 1 + n ≤ 2000
        · rw [if_pos (.inr h3), if_pos (.inr (by omega))]; simp
        · rw [if_neg (by omega), if_neg (by omega)]
theorem br_build (n : Nat) : build (List.replicate n (tokStart bBr)) = if n ≤ 2000 then some (List.replicate n brNode) else none := by
  unfold build
  rw [show rootEl = rootOf [] from rfl, br_buildL n [] 0 (by omega)]
  by_cases h : n ≤ 2000
  · rw [if_pos (.inr (by omega)), if_pos h]
    rfl
  · rw [if_neg (by omega), if_neg h]
    rfl
theorem br_count : ∀ n, nCount (List.replicate n brNode) = n ∧ nDeep (List.replicate n brNode) = min n 1
  | 0 => ⟨by rw [List.replicate_zero, nCount_nil], by rw [List.replicate_zero, nDeep_nil]; rfl⟩
  | n + 1 => by
    obtain ⟨h1, h2⟩ := br_count n
    have hb : ¬ (brNode.name = ByteArray.empty) := by decide
    have hk : brNode.kids = [] := rfl
    constructor
    · rw [List.replicate_succ, nCount_cons, hk, nCount_nil, h1]; omega
    · rw [List.replicate_succ, nDeep_cons, if_neg hb, hk, nDeep_nil, h2]; omega
end Go.Proofs.Ytidicfdcjoggpaa
