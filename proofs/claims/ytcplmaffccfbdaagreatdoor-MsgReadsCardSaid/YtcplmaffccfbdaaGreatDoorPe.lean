/-
  What a policy lets, and whether it is stricter than another: walked.
-/
import Derived.Test.YtcplmaffccfbdaaGreatDoorPd
namespace Go.Proofs.YtcplmaffccfbdaaGreatDoor.M
open Go.RowKit
set_option linter.unusedVariables false
set_option linter.unusedSimpArgs false
def letsP (p : Pol) (e a : Str) : Bool := decide (e ∈ p.elems) && (decide ((⟨#[42, 46]⟩ ++ a : Str) ∈ p.attrs) || decide (((e ++ ⟨#[46]⟩ : Str) ++ a : Str) ∈ p.attrs))
def allIn (a b : List Str) : Bool := a.all fun s => decide (s ∈ b)
def ixS (s : Str) : Int := Lib.indexByte s.data.toList (46 : Int).toNat.toUInt8
theorem ixS_le (s : Str) (h : 0 ≤ ixS s) : ixS s < s.size := by
  obtain ⟨o, ho⟩ : ∃ o : Nat, ixS s = o := ⟨(ixS s).toNat, by omega⟩
  have h2 := (Lib.indexByte_some (show Lib.indexByte s.data.toList (46 : Int).toNat.toUInt8 = (o : Int) from ho)).1
  obtain ⟨h3, _⟩ := List.getElem?_eq_some_iff.1 h2
  have h4 : s.data.toList.length = s.size := by rw [Array.length_toList]; rfl
  omega
def anyS (s : Str) : Str := if 0 ≤ ixS s then (⟨#[42]⟩ ++ cutS s (ixS s) s.size : Str) else ⟨#[42]⟩
def attrIn (q : Pol) (s : Str) : Bool := decide (s ∈ q.attrs) || decide (anyS s ∈ q.attrs)
def strictP (p q : Pol) : Bool :=
  p.attrs.all (attrIn q) && ((decide (p.depth = min p.depth q.depth) && (decide (p.nodes = min p.nodes q.nodes) && decide (p.bytes = min p.bytes q.bytes))) &&
    (allIn p.elems q.elems && (allIn p.schemes q.schemes && (allIn p.classes q.classes && allIn p.props q.props))))
theorem cutS_size (s : Str) (a b : Int) : (cutS s a b).size ≤ s.size := by
  unfold cutS
  rw [ByteArray.size_extract]; omega
end Go.Proofs.YtcplmaffccfbdaaGreatDoor.M
