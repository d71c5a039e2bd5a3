/-
  The law DomFine walked: whatever the tokens, a built tree is fine, and no greater than the bounds.
-/
import Derived.Test.YtidicfdcjoggpaaDomTextWalk
import Derived.Test.YtidicfdcjoggpaaDomFine
import Derived.Test.YtidicfdcjoggpaaDomFineLaw
namespace Go.Proofs.Ytidicfdcjoggpaa
open Go.RowKit
set_option linter.unusedVariables false
set_option linter.unusedSimpArgs false
theorem vrs3 {S : Nat → Prop} {w : World} {x y z : M.AVal} {u v t : Value} (h : M.VR S w x u) (k : M.VR S w y v) (m : M.VR S w z t) : M.VRs S w [x, y, z] #[u, v, t] := ⟨rfl, fun i hi hi' => by
  rcases i with _ | _ | _ | i
  · exact h
  · exact k
  · exact m
  · simp at hi; omega⟩
theorem fine_any (w : World) (P : FP) (v : Value) (p li : Bool) (l : List Node) (hv : SliceIs w P v l) (hP : ∀ b, P b → b < w.heap.size) (hc : nCount l ≤ 1000000) (hf : FineL p li false l) :
    Calls Try.prog 26 #[v, .bool p, .bool li] w fun e w' => BoolIs true e ∧ Upd None w w' :=
  (M.law_done (M.fine_ok (W := w) (nCount l + 1) l (by omega) (by omega) p li hf) (vrs3 (M.nodes_from (S := M.Old w) hP (SizeOf.sizeOf l + 1) l (fun x hx => by have := List.sizeOf_lt_of_mem hx; omega) hv) (.v _) (.v _))).mono fun e w' h => ⟨h.1, Upd.of_below h.2⟩
set_option maxHeartbeats 4000000 in
theorem domFine_walk (v : Value) (l : List Token) (w : World) (hv : SliceIs w All v l) : Calls Try.prog 8 #[v] w fun e w' => e = .returned (.bool true) ∧ Below w.heap.size w w' := by
  obtain ⟨A, c, rfl, hlc, hcm⟩ := hv.shape
  unfold maxLen at hcm
  have HV := Lib.hid hv
  clear hv
  go_enter Try.func8, Try.ntmps8
  go_wp2_with fail
  refine (awake_any _).mono ?_
  rintro e w1 ⟨rfl, hu⟩
  have HU := Lib.hid hu
  clear hu
  go_wp2_with fail
  refine (light_any _ _ _ l (HV.out.keep HU.out)).mono ?_
  rintro e w2 ⟨⟨b1, rfl, h1⟩, hu⟩
  have H1 := Lib.hid h1
  have HU2 := Lib.hid (HU.out.trans hu (fun _ _ h => h))
  clear hu HU h1
  cases b1
  · go_wp2
    go_ret
    exact ⟨rfl, HU2.out.below⟩
  have hlt := H1.out rfl
  clear H1
  go_wp2_with fail
  refine (named_any _ _ _ l (HV.out.keep HU2.out)).mono ?_
  rintro e w' ⟨⟨b2, rfl, h2⟩, rfl⟩
  have H2 := Lib.hid h2
  clear h2
  cases b2
  · go_wp2
    go_ret
    exact ⟨rfl, HU2.out.below⟩
  have hnm := Lib.hid (H2.out rfl)
  have hsum := light_sum l hlt
  have hat := Lib.hid (light_attrs hlt)
  clear H2
  go_wp2_with fail
  refine (build_any _ _ l ((HV.out.keep HU2.out).bound.frame (Same.refl _ _) (fun _ h => h.2)) (by omega) hat.out (by omega)).mono ?_
  rintro e w3 ⟨hp, hB⟩
  have HU3 := Lib.hid (below_step HU2.out hB)
  clear hB HU2
  cases hb : build l with
  | none =>
    rw [hb] at hp
    cases hp
    clear hb
    go_wp2_with fail
    refine (size_any _ None _ [] (SliceIs.nil _ _) (by rw [nCount_nil]; omega)).mono ?_
    rw [nCount_nil, nDeep_nil]
    rintro e w4 ⟨rfl, hu⟩
    have HU4 := Lib.hid (HU3.out.trans hu (fun _ _ h => h))
    clear hu HU3
    go_wp2_with fail
    refine (fine_any _ None _ _ _ [] (SliceIs.nil _ _) (fun _ h => h.elim) (by rw [nCount_nil]; omega) (FineL_nil _ _ _)).mono ?_
    rintro e w5 ⟨rfl, hu⟩
    have HU5 := Lib.hid (HU4.out.trans hu (fun _ _ h => h))
    clear hu HU4
    go_wp2
    go_ret
    exact ⟨rfl, HU5.out.below⟩
  | some ns =>
    rw [hb] at hp
    obtain ⟨vt, rfl, hns⟩ := hp
    obtain ⟨hf1, hf2, hf3⟩ := build_fine l ns hnm.out hb
    have HF1 := Lib.hid hf1
    have HNS := Lib.hid hns
    clear hb hns hf1
    obtain ⟨A3, c3, rfl, -⟩ := HNS.out.shape
    go_wp2_with fail
    refine (size_any _ _ _ ns HNS.out (by omega)).mono ?_
    rintro e w4 ⟨rfl, hu⟩
    have HU4 := Lib.hid (HU3.out.trans hu (fun _ _ h => h))
    have HNS4 := Lib.hid (HNS.out.keep hu)
    clear hu HU3 HNS
    go_wp2_with fail
    refine (fine_any _ _ _ _ _ ns HNS4.out.bound (fun _ h => h.2) (by omega) HF1.out).mono ?_
    rintro e w5 ⟨rfl, hu⟩
    have HU5 := Lib.hid (HU4.out.trans hu (fun _ _ h => h))
    clear hu HU4
    go_wp2
    go_ret
    exact ⟨rfl, HU5.out.below⟩
end Go.Proofs.Ytidicfdcjoggpaa
