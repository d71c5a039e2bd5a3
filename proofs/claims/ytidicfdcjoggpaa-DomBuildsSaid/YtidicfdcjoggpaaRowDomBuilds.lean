/-
  The row of the law DomBuilds, out of its walk.
-/
import Derived.Test.YtidicfdcjoggpaaRows
import Derived.Test.YtidicfdcjoggpaaDomBuildsWalk
import Derived.Test.YtidicfdcjoggpaaRead
import Derived.WalkKit
import Derived.ProofKit
import Derived.OpenShut
import Derived.ShutString
import Derived.ChangeOld
import Derived.Below
namespace Go.Proofs.Ytidicfdcjoggpaa.M
open Go.RowKit
theorem toks_from {S : Nat → Prop} {w : World} {P : FP} {xs : List Token} {v : Value} (hP : ∀ b, P b → S b) (h : SliceIs w P v xs) : VR S w (.sl false 5 (xs.map tokRow)) v :=
  sl_from (α := Token) (fun _ => rfl) (fun x y hy => by simp [tokRow] at hy; rcases hy with rfl | rfl | rfl | rfl | rfl <;> rfl) hP (fun x _ cs hv i hi hi' => by
    obtain ⟨va, e, ha⟩ : ∃ va, cs = [.int .i64 x.kind, .string x.name, va, .bool x.closed, .string x.text] ∧ SliceIs w P va x.attrs := hv
    subst e
    rcases i with _ | _ | _ | _ | _ | i
    · exact .v _
    · exact .v _
    · exact attrs_from hP ha
    · exact .v _
    · exact .v _
    · simp [tokRow] at hi; omega) h
end Go.Proofs.Ytidicfdcjoggpaa.M
namespace Go.Proofs.Ytidicfdcjoggpaa
open Go.RowKit
theorem domBuilds_walk (v : Value) (l : List Token) (w : World) (hv : SliceIs w All v l) : Calls Try.prog 3 #[v] w fun e w' => e = .returned (.bool true) ∧ Below w.heap.size w w' :=
  M.law_done (M.builds_law (W := w) false l) (M.VRs.one (M.toks_from (S := M.Old w) (fun _ h => h.2) hv.bound))
end Go.Proofs.Ytidicfdcjoggpaa
namespace Go.Proofs.Ytidicfdcjoggpaa.domBuilds
open Go.ChangeShapes Go.WideShapes Go.ChangeAt Go.RowKit
open Go.ChangeMaps (open_string shut_string)
set_option linter.unusedVariables false
theorem own : ownKnob Try.prog.godebug = none := by kernel_rfl
theorem laidOut : laidOutB Try.prog = true := by kernel_rfl
set_option maxRecDepth 100000 in
theorem lifted (os : Os) (started : os.Started) (H : Type) (enc : TypeId × Value → H) :
    ReturnsInHanded {} Try.checked os 3 .any (Rows.domBuildsSpec.pre6 enc Try.prog Try.f3 Rows.domBuildsRow.domain false) (Rows.domBuildsSpec.post enc Try.prog Try.f3 false true false false) := by
  refine returnsInHanded_of_change (C := Try.checked) own started (by kernel_rfl) Try.func3
    (ChangeSpec.witness6 (enc := enc) (C := Try.checked) false ⟨#[], #[.slice none 0 0], []⟩ 8 (by kernel_rfl) (by kernel_rfl) (by kernel_rfl) (by kernel_rfl)) ?_
  intro W base args ds gs before hval0 hW hcnd _
  have hval : ∀ (j : Nat) t v, Try.f3.params[j]? = some t → args[j]? = some v → Value.okWide Try.prog W .any base t v := hval0
  have hW' := hW
  obtain ⟨p, q, hA0, hV, rfl, hfz, hnd⟩ := hW
  have hA : DataW.TrodAll enc Try.prog W 0 (fun _ => true) true Try.f3.params.toList args.toList ds p := hA0
  rw [Try.params3] at hA hval
  obtain ⟨v0, vs0, d0, ds0, p0, q0, hargs, rfl, rfl, h0, r0⟩ := trodAll_cons hA
  obtain ⟨rfl, rfl, rfl⟩ := trodAll_nil r0
  obtain rfl : args = #[v0] := by cases args; simp_all
  obtain ⟨rfl, rfl⟩ := trodVars_none hV
  have k0 := h0
  have lt0 : ∀ x ∈ p0, x.block < W.heap.size := by obtain ⟨m, hm⟩ := k0; exact DataW.trod_lt m _ _ _ hm
  obtain ⟨x0, w0⟩ := arg_slice Try.underlying22 (fun _ => reads_tokens) (hval 0 22 v0 rfl rfl) h0
  clear hA0 hval0
  refine (domBuilds_walk _ x0 W w0).mono fun e W' ⟨he, bel⟩ => ?_
  subst he
  exact ⟨_, rfl, _, _, _, [], _, [], hW', trodAll_mk1 (shut_bool Try.underlying4 _), (trodAll_cons_mk (Below.trod laidOut (by kernel_rfl) (of_decide_eq_true (by kernel_rfl)) k0 bel lt0) trodAll_mk0), rfl, bel.frame _, fun h => by cases h⟩
theorem over : Rows.domBuildsRow.holds Try.pinned (OpenSpec.ofChange Rows.domBuildsSpec) :=
  OpenClaim.holds_of_wide 3 Try.f3 rfl rfl rfl rfl rfl rfl rfl ⟨rfl, rfl, rfl, rfl, rfl⟩ rfl rfl rfl rfl rfl (by kernel_rfl) Try.func3 (by kernel_rfl)
    (of_decide_eq_true (by kernel_rfl)) (by unfold Func.isWrapper; first | (rw [if_pos (by decide +kernel)]; kernel_rfl) | (rw [if_neg (by decide +kernel)]; exact ⟨rfl, rfl⟩))
    (fun os started H enc _ => lifted os started H enc)
theorem proved : Rows.DomBuildsSaid := over
#print axioms proved
end Go.Proofs.Ytidicfdcjoggpaa.domBuilds
namespace Go.Proofs.Ytidicfdcjoggpaa
/-- The row, under a short name, for the claim. -/
theorem domBuilds_holds : Rows.DomBuildsSaid := domBuilds.proved
end Go.Proofs.Ytidicfdcjoggpaa
