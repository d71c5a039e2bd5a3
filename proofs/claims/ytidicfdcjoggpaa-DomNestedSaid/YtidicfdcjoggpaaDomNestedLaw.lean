/-
  What comes of elements that are begun and not ended, with a text within, closed all at once by the first one's end.
-/
import Derived.Test.YtidicfdcjoggpaaDomDeepLaw
namespace Go.Proofs.Ytidicfdcjoggpaa
open Go.RowKit
set_option linter.unusedVariables false
set_option linter.unusedSimpArgs false
def nmN (i : Nat) : Str := ⟨#[UInt8.ofNat (97 + i % 2), UInt8.ofNat (48 + i / 10), UInt8.ofNat (48 + i % 10)]⟩
theorem nmN_plain : ∀ i, i < 60 → isBlock (nmN i) = false ∧ decide (nmN i = bLi) = false ∧ isVoid (nmN i) = false ∧ decide (nmN i = ByteArray.empty) = false := by decide +kernel
theorem nmN_zero : ∀ i, i < 60 → 0 < i → decide (nmN i = nmN 0) = false := by decide +kernel
theorem startP_nm {i : Nat} (h : i < 60) (s : List El) : startP (nmN i) [] s = ⟨nmN i, [], []⟩ :: s := by
  obtain ⟨h1, h2, h3, _⟩ := nmN_plain i h
  unfold startP afterLi afterBlock liOver laid
  simp [h1, h2, h3]
/-- The stack of so many. -/
def nmSt : Nat → List El
  | 0 => [rootOf []]
  | i + 1 => ⟨nmN i, [], []⟩ :: nmSt i
theorem nmSt_len : ∀ i, (nmSt i).length = i + 1
  | 0 => rfl
  | i + 1 => by simp [nmSt, nmSt_len i]
def nmToks (n : Nat) : List Token := (List.range n).map fun i => tokStart (nmN i)
theorem nm_buildL (rest : List Token) : ∀ (k i : Nat), i + k ≤ 60 → buildL (((List.range' i k).map fun i => tokStart (nmN i)) ++ rest) (nmSt i) i = buildL rest (nmSt (i + k)) ((i + k : Nat) : Int)
  | 0, i, _ => by simp
  | k + 1, i, h => by
    have ho : overP (nmSt (i + 1)) ((i : Int) + 1) = false := by
      unfold overP
      rw [decide_eq_false (by rw [nmSt_len]; omega), decide_eq_false (by omega)]; rfl
    have ih := nm_buildL rest k (i + 1) (by omega)
    have hs : startP (nmN i) [] (nmSt i) = nmSt (i + 1) := startP_nm (by omega) _
    rw [List.range'_succ, List.map_cons, List.cons_append]
    simp only [buildL, step_start, hs, ho, Bool.false_eq_true, if_false]
    rw [show (i : Int) + 1 = ((i + 1 : Nat) : Int) by omega, ih, show i + 1 + k = i + (k + 1) by omega]
def wrapN : Nat → List Node → List Node
  | 0, ks => ks
  | n + 1, ks => wrapN n [⟨nmN n, [], ByteArray.empty, ks⟩]
theorem shut_nm : ∀ (n : Nat) (ks : List Node), shutN (n + 1) (⟨nmN n, [], ks⟩ :: nmSt n) = [rootOf (wrapN (n + 1) ks)]
  | 0, ks => by simp [shutN, shutP, nmSt, rootOf, El.add, El.node, wrapN]
  | n + 1, ks => by
    have ih := shut_nm n [⟨nmN (n + 1), [], ByteArray.empty, ks⟩]
    rw [shutN]
    have : shutP (⟨nmN (n + 1), [], ks⟩ :: nmSt (n + 1)) = ⟨nmN n, [], [⟨nmN (n + 1), [], ByteArray.empty, ks⟩]⟩ :: nmSt n := by
      simp [shutP, nmSt, El.add, El.node]
    rw [this, ih]; rfl
theorem inner_nm : ∀ (n : Nat) (e : El), n < 60 → (0 < n → e.name ≠ nmN 0) → (n = 0 → e.name = nmN 0) → innerP [nmN 0] (e :: nmSt n) = 1
  | 0, e, _, _, h => by simp [innerP, nmSt, rootOf, h rfl]
  | n + 1, e, hn, h, _ => by
    have hne := h (by omega)
    have ih := inner_nm n ⟨nmN n, [], []⟩ (by omega) (fun h0 => by simpa using nmN_zero n (by omega) h0) (fun h0 => by rw [h0])
    simp only [nmSt, innerP, List.mem_singleton, if_neg hne]
    exact ih
theorem wrapN_last : ∀ (n : Nat) (ks : List Node), 0 < n → ∃ x : Node, wrapN n ks = [x] ∧ x.name = nmN 0
  | 1, ks, _ => ⟨_, rfl, rfl⟩
  | n + 2, ks, _ => wrapN_last (n + 1) _ (by omega)
theorem nested_build {n : Nat} (h1 : 1 ≤ n) (h2 : n ≤ 60) {t : Str} (ht : t ≠ ByteArray.empty) : build (((List.range' 0 n).map fun i => tokStart (nmN i)) ++ [tokText t, tokEnd (nmN 0), tokText t]) = some (wrapN n [textNode t] ++ [textNode t]) := by
  obtain ⟨m, rfl⟩ : ∃ m, n = m + 1 := ⟨n - 1, by omega⟩
  have h := nm_buildL [tokText t, tokEnd (nmN 0), tokText t] (m + 1) 0 (by omega)
  rw [Nat.zero_add] at h
  unfold build
  rw [show rootEl = rootOf [] from rfl, show [rootOf []] = nmSt 0 from rfl, show (0 : Int) = ((0 : Nat) : Int) from rfl, h]
  have e1 : textS t (nmSt (m + 1)) ((m + 1 : Nat) : Int) = ⟨⟨nmN m, [], [textNode t]⟩ :: nmSt m, ((m + 1 : Nat) : Int) + 1, overP (⟨nmN m, [], [textNode t]⟩ :: nmSt m) (((m + 1 : Nat) : Int) + 1)⟩ := by
    unfold textS
    rw [if_neg ht]
    rfl
  have ho : overP (⟨nmN m, [], [textNode t]⟩ :: nmSt m) (((m + 1 : Nat) : Int) + 1) = false := by
    unfold overP
    rw [decide_eq_false (by rw [List.length_cons, nmSt_len]; omega), decide_eq_false (by omega)]; rfl
  have hin : innerP [nmN 0] (⟨nmN m, [], [textNode t]⟩ :: nmSt m) = 1 := inner_nm m _ (by omega) (fun h0 => by simpa using nmN_zero m (by omega) h0) (fun h0 => by rw [h0])
  have e2 : endS (nmN 0) (⟨nmN m, [], [textNode t]⟩ :: nmSt m) (((m + 1 : Nat) : Int) + 1) = ⟨[rootOf (wrapN (m + 1) [textNode t])], ((m + 1 : Nat) : Int) + 1, false⟩ := by
    unfold endS
    rw [hin, if_pos (by omega)]
    unfold closeP
    rw [hin, if_neg (by omega), List.length_cons, nmSt_len, show m + 1 + 1 - 1 = m + 1 by omega, shut_nm]
  obtain ⟨x, hx, hxn⟩ := wrapN_last (m + 1) [textNode t] (by omega)
  have hl : lastText (rootOf (wrapN (m + 1) [textNode t])) = false := by
    rw [hx]
    simp only [lastText, rootOf, List.getLast?_singleton, hxn]
    decide +kernel
  have e3 : textS t [rootOf (wrapN (m + 1) [textNode t])] (((m + 1 : Nat) : Int) + 1) = ⟨[rootOf (wrapN (m + 1) [textNode t] ++ [textNode t])], ((m + 1 : Nat) : Int) + 1 + 1, overP [rootOf (wrapN (m + 1) [textNode t] ++ [textNode t])] (((m + 1 : Nat) : Int) + 1 + 1)⟩ := by
    have hp : textP t [rootOf (wrapN (m + 1) [textNode t])] = [rootOf (wrapN (m + 1) [textNode t] ++ [textNode t])] := by
      unfold textP
      simp only [hl, Bool.false_eq_true, if_false]; rfl
    unfold textS
    rw [if_neg ht]
    simp only [hl, Bool.false_eq_true, if_false, hp]
  have ho3 : overP [rootOf (wrapN (m + 1) [textNode t] ++ [textNode t])] (((m + 1 : Nat) : Int) + 1 + 1) = false := by
    unfold overP
    rw [decide_eq_false (by simp), decide_eq_false (by omega)]; rfl
  simp only [buildL, step_text, step_end, e1, ho, e2, e3, ho3, Bool.false_eq_true, if_false, Option.map_some]
  rfl
theorem wrapN_count : ∀ (n : Nat) (ks : List Node), n ≤ 60 → nCount (wrapN n ks) = n + nCount ks ∧ nDeep (wrapN n ks) = n + nDeep ks ∧ nText (wrapN n ks) = nText ks
  | 0, ks, _ => by simp [wrapN]
  | n + 1, ks, h => by
    obtain ⟨h1, h2, h3⟩ := wrapN_count n [⟨nmN n, [], ByteArray.empty, ks⟩] (by omega)
    have hne : ¬ (nmN n = ByteArray.empty) := by simpa using (nmN_plain n (by omega)).2.2.2
    refine ⟨?_, ?_, ?_⟩
    · rw [wrapN, h1, nCount_cons, nCount_nil]; simp only; omega
    · rw [wrapN, h2, nDeep_cons, nDeep_nil]; simp only [if_neg hne]; omega
    · rw [wrapN, h3, nText_cons, nText_nil]; simp
end Go.Proofs.Ytidicfdcjoggpaa
