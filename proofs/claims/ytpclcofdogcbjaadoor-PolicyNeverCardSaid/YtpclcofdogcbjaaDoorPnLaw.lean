/-
  With an element that never may stay, or an attribute that never may, there is no such policy.
-/
import Derived.Test.YtpclcofdogcbjaaDoorPg
namespace Go.Proofs.YtpclcofdogcbjaaDoor.M
open Go.RowKit
set_option linter.unusedVariables false
set_option linter.unusedSimpArgs false
theorem rightP_list {p : Pol} (h : listP p.elems elP = false ∨ listP p.attrs (attrsP p.elems) = false) : rightP p = false := by
  unfold rightP
  rcases h with h | h
  · rw [h]; simp
  · rw [h]; simp
theorem listP_one {holds : Str → Bool} {s : Str} (h : holds s = false) : listP [s] holds = false := by
  unfold listP; simp [h]
theorem never_not {p : Pol} {name : Str} (h : neverP name = true) : rightP { p with elems := [name], attrs := [] } = false :=
  rightP_list (.inl (listP_one (by unfold elP; rw [h]; simp)))
def onS (name : Str) : Str := ⟨#[42, 46, 111, 110]⟩ ++ name
theorem onS_cut (name : Str) : cutT (onS name) dotS = (starS, ⟨#[111, 110]⟩ ++ name, true) := by
  have e : (onS name).data.toList = 42 :: 46 :: 111 :: 110 :: name.data.toList := by
    unfold onS
    rw [ByteArray.data_append, Array.toList_append]; rfl
  have e2 : (⟨#[111, 110]⟩ ++ name : Str) = ⟨(111 :: 110 :: name.data.toList).toArray⟩ := by
    apply ByteArray.ext
    rw [ByteArray.data_append]
    apply Array.ext'
    rw [Array.toList_append]
    rfl
  unfold cutT
  rw [e, e2]
  have hi : Lib.index (42 :: 46 :: 111 :: 110 :: name.data.toList) dotS.data.toList = 1 := by
    simp [Lib.index, dotS]
  unfold Lib.cut
  rw [hi]
  rfl
theorem on_attr (name : Str) (elems : List Str) : attrsP elems (onS name) = false := by
  unfold attrsP
  rw [onS_cut]
  have : hasPre (⟨#[111, 110]⟩ ++ name) ⟨#[111, 110]⟩ = true := by
    unfold hasPre
    rw [Bool.and_eq_true]
    refine ⟨decide_eq_true (by rw [ByteArray.size_append]; omega), decide_eq_true ?_⟩
    apply ByteArray.ext
    rw [ByteArray.data_extract, ByteArray.data_append]
    apply Array.ext'
    simp
    rfl
  unfold attrP
  rw [this]
  simp
theorem on_not {p : Pol} {name : Str} : rightP { p with attrs := [onS name] } = false := rightP_list (.inr (listP_one (on_attr name _)))
def styleS : Str := (⟨#[42, 46, 115, 116, 121, 108, 101]⟩ : ByteArray)
theorem style_not {p : Pol} : rightP { p with attrs := [styleS] } = false := by
  refine rightP_list (.inr (listP_one ?_))
  unfold attrsP
  rw [show cutT styleS dotS = (starS, (⟨#[115, 116, 121, 108, 101]⟩ : ByteArray), true) by decide +kernel]
  rw [show attrP (⟨#[115, 116, 121, 108, 101]⟩ : ByteArray) = false by decide +kernel]
  simp
end Go.Proofs.YtpclcofdogcbjaaDoor.M
