/-
  The law DomSizes walked: any tree's text, and its sizes.
-/
import Derived.Test.YtidicfdcjoggpaaDomWeight
import Derived.Test.YtidicfdcjoggpaaDomAwake
import Derived.Test.YtidicfdcjoggpaaRead
namespace Go.Proofs.Ytidicfdcjoggpaa
open Go.RowKit
set_option linter.unusedVariables false
set_option linter.unusedSimpArgs false
def LightTree (l : List Node) (e : Ending) : Prop := ∃ b, BoolIs b e ∧ (b = true → nCount l + (nText l).size ≤ 20000)
set_option maxRecDepth 100000 in
set_option maxHeartbeats 2000000 in
theorem lightTree_any (w : World) (P : FP) (v : Value) (l : List Node) (hv : SliceIs w P v l) : Calls Try.prog 22 #[v, .int .i64 0] w fun e w' => LightTree l e ∧ Upd None w w' := by
  obtain ⟨A, c, rfl, hlc, hcm⟩ := hv.shape
  have HV := Lib.hid hv
  clear hv
  go_enter Try.func22, Try.ntmps22
  go_wp2_with fail
  refine (weight_any _ _ _ l HV.out).mono ?_
  rintro e w2 ⟨⟨N, rfl, hN, hlt⟩, hu⟩
  have HLT := Lib.hid hlt
  have HU := Lib.hid hu
  clear hu hlt hN
  go_wp2
  go_ret
  exact ⟨⟨decide ((N : Int) < 20000), rfl, fun h => by have h := of_decide_eq_true h; have := HLT.out (by omega); omega⟩, HU.out⟩
set_option maxRecDepth 100000 in
set_option maxHeartbeats 4000000 in
theorem domSizes_walk (v : Value) (l : List Node) (w : World) (hv : SliceIs w All v l) : Calls Try.prog 7 #[v] w fun e w' => e = .returned (.bool true) ∧ Below w.heap.size w w' := by
  obtain ⟨A, c, rfl, hlc, hcm⟩ := hv.shape
  unfold maxLen at hcm
  have HV := Lib.hid hv
  clear hv
  go_enter Try.func7, Try.ntmps7
  go_wp2_with fail
  refine (awake_any _).mono ?_
  rintro e w1 ⟨rfl, hu⟩
  have HU := Lib.hid hu
  clear hu
  go_wp2_with fail
  refine (lightTree_any _ _ _ l (HV.out.keep HU.out)).mono ?_
  rintro e w2 ⟨⟨b1, rfl, h1⟩, hu⟩
  have H1 := Lib.hid h1
  have HU2 := Lib.hid (HU.out.trans hu (fun _ _ h => h))
  clear hu HU h1
  cases b1
  · go_wp2
    go_ret
    exact ⟨rfl, HU2.out.below⟩
  have hb := H1.out rfl
  clear H1
  go_wp2_with fail
  refine (size_any _ _ _ l (HV.out.keep HU2.out) (by omega)).mono ?_
  rintro e w3 ⟨rfl, hu⟩
  have HU3 := Lib.hid (HU2.out.trans hu (fun _ _ h => h))
  clear hu HU2
  go_wp2_with fail
  refine (refSize_any _ _ _ l (HV.out.keep HU3.out) (by omega)).mono ?_
  rintro e w' ⟨rfl, rfl⟩
  go_wp2_with fail
  refine (nodesText_any _ _ _ l (HV.out.keep HU3.out) (by omega)).mono ?_
  rintro e w4 ⟨rfl, hu⟩
  have HU4 := Lib.hid (HU3.out.trans hu (fun _ _ h => h))
  clear hu HU3
  go_wp2_with fail
  refine (refText_any _ _ _ l (HV.out.keep HU4.out) (by omega)).mono ?_
  rintro e w5 ⟨rfl, hu⟩
  have HU5 := Lib.hid (HU4.out.trans hu (fun _ _ h => h))
  clear hu HU4
  go_wp2
  go_ret
  exact ⟨by simp, HU5.out.below⟩
end Go.Proofs.Ytidicfdcjoggpaa
