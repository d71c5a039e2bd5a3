/-
 A text's bytes; numbers in digits, and read.
-/
import Derived.Test.YtfaodacmdlnabaaGreatDoorPatoi
namespace Go.Proofs.YtfaodacmdlnabaaGreatDoor.M
open Go.RowKit
set_option linter.unusedVariables false
set_option linter.unusedSimpArgs false
def bl (s : Str) : List UInt8 := s.data.toList
theorem bl_app (a b : Str) : bl (a ++ b) = bl a ++ bl b := by
 unfold bl
 rw [ByteArray.data_append, Array.toList_append]
theorem bl_inj {a b : Str} (h : bl a = bl b) : a = b := by
 apply ByteArray.ext
 apply Array.ext'
 exact h
theorem bl_len (s : Str) : (bl s).length = s.size := by
 unfold bl
 rw [Array.length_toList]; rfl
theorem bl_itoa (n : Nat) : bl (itoaS (n : Int)) = Lib.decDigits n := by
 unfold itoaS bl Lib.itoa
 rw [if_neg (by omega)]
 simp
/-! ### Numbers -/
def isDig (c : UInt8) : Prop := 48 ≤ c.toNat ∧ c.toNat ≤ 57
theorem decDigits_dig : ∀ (n : Nat), ∀ c ∈ Lib.decDigits n, isDig c := by
 intro n
 induction n using Nat.strongRecOn with
 | _ n ih =>
  intro c hc
  have hd : ∀ d, d < 10 → c = UInt8.ofNat (48 + d) → isDig c := fun d hd e => by
   subst e
   unfold isDig
   rw [UInt8.toNat_ofNat']
   omega
  rw [Lib.decDigits] at hc
  split at hc
  ·rename_i h
   exact hd n h (by simpa using hc)
  ·rename_i h
   rcases List.mem_append.1 hc with h2 | h2
   ·exact ih (n / 10) (by omega) c h2
   ·exact hd (n % 10) (by omega) (by simpa using h2)
theorem decDigits_ne (n : Nat) : Lib.decDigits n ≠ [] := by
 rw [Lib.decDigits]; split <;> simp
def dval (a : Nat) (l : List UInt8) : Nat := l.foldl (fun a c => a * 10 + (c.toNat - 48)) a
theorem dval_dec : ∀ (n : Nat), dval 0 (Lib.decDigits n) = n := by
 intro n
 induction n using Nat.strongRecOn with
 | _ n ih =>
  have hd : ∀ d, d < 10 → (UInt8.ofNat (48 + d)).toNat = 48 + d := fun d hd => by rw [UInt8.toNat_ofNat']; omega
  rw [Lib.decDigits]
  split
  ·rename_i h
   simp [dval]
   omega
  ·rename_i h
   have := ih (n / 10) (by omega)
   unfold dval at this ⊢
   rw [List.foldl_append, this]
   simp [hd (n % 10) (by omega)]
   omega
theorem dval_ge : ∀ (l : List UInt8) (a : Nat), a ≤ dval a l
 | [], a => Nat.le_refl _
 | c :: l, a => by
  have := dval_ge l (a * 10 + (c.toNat - 48))
  show a ≤ dval (a * 10 + (c.toNat - 48)) l
  omega
theorem parse_dig : ∀ (l : List UInt8) (a : Nat), (∀ c ∈ l, isDig c) → dval a l < 1000000000000000000 → Lib.parseUint10 a l = .ok (dval a l)
 | [], a, _, _ => rfl
 | c :: l, a, h, hb => by
  have hc := h c (by simp)
  have h2 := dval_ge l (a * 10 + (c.toNat - 48))
  have hb' : dval (a * 10 + (c.toNat - 48)) l < 1000000000000000000 := hb
  rw [Lib.parseUint10, if_pos (show 48 ≤ c.toNat ∧ c.toNat ≤ 57 from hc), if_neg (by omega), if_neg (by omega), parse_dig l _ (fun x hx => h x (by simp [hx])) hb']
  rfl
theorem atoi_dec (n : Nat) (h : n < 1000000000000000000) : Lib.atoiAll (Lib.decDigits n) = .ok (n : Int) := by
 have h1 := decDigits_dig n
 have h2 := dval_dec n
 have h3 := decDigits_ne n
 generalize Lib.decDigits n = l at h1 h2 h3
 cases l with
 | nil => exact absurd rfl h3
 | cons c r =>
  have hc := h1 c (by simp)
  unfold isDig at hc
  have hp : Lib.parseMag (c :: r) = .ok n := by
   unfold Lib.parseMag
   rw [if_neg (by simp), parse_dig _ 0 h1 (by rw [h2]; exact h), h2]
  unfold Lib.atoiAll
  have k1 : ¬ (c.toNat = 43 ∨ c.toNat = 45) := by omega
  have k2 : ¬ c.toNat = 45 := by omega
  simp only [if_neg k1, hp]
  rw [if_neg (by omega), if_neg (fun h => k2 h.1), if_neg k2]
theorem numP_itoa (n : Int) (h0 : 0 ≤ n) (h1 : n ≤ 1000000) : numP (itoaS n) = n := by
 obtain ⟨k, rfl⟩ : ∃ k : Nat, n = k := ⟨n.toNat, by omega⟩
 unfold numP
 rw [show (itoaS (k : Int)).data.toList = Lib.decDigits k from bl_itoa k, atoi_dec k (by omega)]
def Plain (s : Str) : Prop := (10 : UInt8) ∉ bl s ∧ (32 : UInt8) ∉ bl s
theorem itoa_plain (n : Int) (h0 : 0 ≤ n) : Plain (itoaS n) := by
 obtain ⟨k, rfl⟩ : ∃ k : Nat, n = k := ⟨n.toNat, by omega⟩
 unfold Plain
 rw [bl_itoa]
 refine ⟨fun h => ?_, fun h => ?_⟩
 ·have := decDigits_dig k _ h; unfold isDig at this; revert this; decide
 ·have := decDigits_dig k _ h; unfold isDig at this; revert this; decide
theorem bt_get {s : Str} {k : Nat} (hk : k < (bl s).length) : bt s (k : Int) = ((bl s)[k].toNat : Int) := by
 unfold bt
 rw [Int.toNat_natCast, List.getD_eq_getElem?_getD, show s.data.toList = bl s from rfl, List.getElem?_eq_getElem hk]
 rfl
theorem bt_mem {s : Str} {c : UInt8} (h : c ∈ bl s) : ∃ i : Nat, i < s.size ∧ bt s (i : Int) = (c.toNat : Int) := by
 obtain ⟨i, hi, e⟩ := List.getElem_of_mem h
 exact ⟨i, by rw [← bl_len]; exact hi, by rw [bt_get hi, e]⟩
end Go.Proofs.YtfaodacmdlnabaaGreatDoor.M
