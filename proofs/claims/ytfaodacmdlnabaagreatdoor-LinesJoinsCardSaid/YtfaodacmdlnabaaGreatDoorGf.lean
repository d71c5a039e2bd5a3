/-
 What a call owns is a part of what is owned; all other parts stay as they are.
-/
import Derived.Test.YtfaodacmdlnabaaGreatDoorMV
namespace Go.Proofs.YtfaodacmdlnabaaGreatDoor.M
open Go.RowKit
set_option linter.unusedVariables false
set_option linter.unusedSimpArgs false
abbrev ptr (g : Nat) : AVal := .v (.pointer (some ⟨g, 0, none⟩))
theorem put_id {H : AHeap} {b : Nat} {o : AObj} (h : H b = some o) : H.put b o = H := by
 funext x
 by_cases e : x = b
 ·subst e; rw [put_self, h]
 ·rw [put_ne _ _ e]
/-- Two parts share no block. -/
def Dis (A B : AHeap) : Prop := ∀ b, A b ≠ none → B b = none
theorem Dis.symm {A B : AHeap} (h : Dis A B) : Dis B A := fun b hb => by
 cases e : A b with
 | none => rfl
 | some o => exact absurd (h b (by rw [e]; exact fun h => by cases h)) hb
theorem Dis.sub {A B A' B' : AHeap} (h : Dis A B) (ha : Sub A' A) (hb : Sub B' B) : Dis A' B' := fun b hn => by
 cases e : A' b with
 | none => exact absurd e hn
 | some o =>
  have h1 := h b (by rw [ha b o e]; exact fun h => by cases h)
  cases e2 : B' b with
  | none => rfl
  | some o2 => rw [hb b o2 e2] at h1; cases h1
theorem Dis.none (B : AHeap) : Dis AHeap.none B := fun b h => absurd rfl h
theorem Sub.trans {A B C : AHeap} (h : Sub A B) (k : Sub B C) : Sub A C := fun b o hb => k b o (h b o hb)
variable {P : Program} {W : World} {f : FuncId} {args : List AVal} {K : AVal → AHeap → Prop}
/-- A call of a part: the other parts stand, and share nothing with what it comes to. -/
theorem ACalls.part {A H : AHeap} (hs : Sub A H) (h : ACalls P W f args A K) :
  ACalls P W f args H fun r H' => ∃ A', K r A' ∧ Sub A' H' ∧ ∀ B, Sub B H → Dis A B → Sub B H' ∧ Dis A' B := by
 intro S w us hw hv
 refine (h S w us (hw.less hs) hv).mono ?_
 rintro e w' ⟨r, H1', S', v, hk, rfl, hx, hw', hvr⟩
 have hlt : ∀ b o, H b = some o → A b = none → H1' b = none := fun b o hb ha => by
  cases e : H1' b with
  | none => rfl
  | some o' =>
   rcases hx.dom b (by rw [e]; exact fun h => by cases h) with h1 | h1
   ·exact absurd ha h1
   ·have := (hw.objs b o hb).lt; omega
 refine ⟨r, H1'.over (fun b => match A b with | some _ => none | none => H b), S', v, ⟨H1', hk, fun b o hb => by unfold AHeap.over; rw [hb], fun B hB hd => ?_⟩, rfl, ?_, ?_, hvr⟩
 ·have h1 : ∀ b o, B b = some o → A b = none ∧ H1' b = none := fun b o hb => by
   have ha := hd.symm b (by rw [hb]; exact fun h => by cases h)
   exact ⟨ha, hlt b o (hB b o hb) ha⟩
  refine ⟨fun b o hb => ?_, Dis.symm fun b hb => ?_⟩
  ·unfold AHeap.over
   obtain ⟨h2, h3⟩ := h1 b o hb
   simp only [h3, h2]
   exact hB b o hb
  ·cases e : B b with
   | none => exact absurd e hb
   | some o => exact (h1 b o e).2
 ·exact { hx with
   block := fun b hb hH => hx.block b hb (by cases e : A b with | none => rfl | some o => rw [hs b o e] at hH; cases hH)
   down := fun b hb => by
    rcases hx.down b hb with h1 | h1 | h1
    ·exact .inl h1
    ·exact .inr (.inl h1)
    ·refine .inr (.inr fun e => h1 ?_)
     cases e2 : A b with
     | none => rfl
     | some o => rw [hs b o e2] at e; cases e
   dom := fun b hb => by
    unfold AHeap.over at hb
    cases e : H1' b with
    | some o =>
     rcases hx.dom b (by simp [e]) with h1 | h1
     ·refine .inl fun e3 => h1 ?_
      cases e2 : A b with
      | none => rfl
      | some o => rw [hs b o e2] at e3; cases e3
     ·exact .inr h1
    | none =>
     simp only [e] at hb
     cases e2 : A b with
     | some o => simp [e2] at hb
     | none => simp only [e2] at hb; exact .inl hb }
 ·have hstill := hx.still (hw.less hs)
  have hkept : ∀ b o, A b = none → H b = some o → w'.heap[b]? = w.heap[b]? := fun b o h1 h2 => hx.block b (hw.objs b o h2).lt h1
  refine ⟨hw'.old, fun b o hb => ?_, hw'.lt, fun b o hb => ?_, fun b o hb => ?_⟩
  ·unfold AHeap.over at hb
   cases e : H1' b with
   | some o' => exact hw'.new b o' e
   | none =>
    simp only [e] at hb
    cases e2 : A b with
    | some o => simp [e2] at hb
    | none => simp only [e2] at hb; exact hw.new b o hb
  ·unfold AHeap.over at hb
   cases e : H1' b with
   | some o' => exact hw'.apart b o' e
   | none =>
    simp only [e] at hb
    cases e2 : A b with
    | some o => simp [e2] at hb
    | none =>
     simp only [e2] at hb
     intro hS
     rcases hx.down b hS with h1 | h1 | h1
     ·exact hw.apart b o hb h1
     ·have := (hw.objs b o hb).lt; omega
     ·exact h1 e2
  ·unfold AHeap.over at hb
   cases e : H1' b with
   | some o' => simp only [e, Option.some.injEq] at hb; subst hb; exact hw'.objs b _ e
   | none =>
    simp only [e] at hb
    cases e2 : A b with
    | some o => simp [e2] at hb
    | none =>
     simp only [e2] at hb
     exact (hw.objs b o hb).keep hstill hx.wide (hkept b o e2 hb)
end Go.Proofs.YtfaodacmdlnabaaGreatDoor.M
