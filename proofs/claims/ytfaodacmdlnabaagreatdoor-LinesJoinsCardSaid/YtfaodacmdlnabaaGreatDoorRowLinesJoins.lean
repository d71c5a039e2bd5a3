/-
 The row and the tied card of the law LinesJoins: for every two texts, without any condition of ours; the listed variables are tied to the program's text by the given tie.
-/
import Derived.Test.YtfaodacmdlnabaaGreatDoorCards
import Derived.Test.YtfaodacmdlnabaaGreatDoorTie
import Derived.Test.YtfaodacmdlnabaaGreatDoorProw7
import Derived.Test.YtfaodacmdlnabaaGreatDoorLp
import Derived.SevenTiedAt
namespace Go.Proofs.YtfaodacmdlnabaaGreatDoor
open Go.RowKit
theorem linesJoins_walk (s t : M.Str) (W : World) (L : M.Laid W ∧ M.Errs W) (_ : s.size ≤ maxLen) (_ : t.size ≤ maxLen) :
  Calls Tryz.prog 4 #[.string s, .string t] W fun e w' => e = .returned (.bool true) ∧ Below W.heap.size W w' :=
 M.law_done (M.joins_law L.1 L.2 (M.lnAwake_ok L.1 L.2) s t) (M.VRs.two (.v _) (.v _))
end Go.Proofs.YtfaodacmdlnabaaGreatDoor
namespace Go.Proofs.YtfaodacmdlnabaaGreatDoor.linesJoins
open Go.ChangeShapes Go.WideShapes Go.ChangeAt Go.RowKit
open Go.ChangeMaps (open_string shut_string)
set_option linter.unusedVariables false
set_option maxRecDepth 100000 in
theorem lifted (os : Os) (started : os.Started) (H : Type) (enc : TypeId × Value → H) :
  ReturnsInHanded {} Tryz.checked os 4 .any (fun w args => (Rows.linesJoinsSpec.pre enc Tryz.prog Tryz.f4 [] false w args ∧ laidMetH Tryz.prog laid7 w) ∧ sizedMet enc Tryz.prog Tryz.f4 (OpenSpec.ofChange Rows.linesJoinsSpec) false w args)
   (Rows.linesJoinsSpec.post enc Tryz.prog Tryz.f4 false true false false) := by
 refine shaped_and (C := Tryz.checked) (X := fun w _ => laidMetH Tryz.prog laid7 w) (fun _ _ _ hh h => h.of_heap hh) own started (by kernel_rfl) Tryz.func4
  (ChangeSpec.witness_shaped (enc := enc) (C := Tryz.checked) (os := os) (X := fun w _ => laidMetH Tryz.prog laid7 w) false (World.laidAll Tryz.prog os laid7) #[.string ByteArray.empty, .string ByteArray.empty] 8 (World.laidAll_os _ _ _) (shaped7 os) (by kernel_rfl) (by kernel_rfl) (by kernel_rfl) (door_met7 os _)) ?_
 intro W base args ds gs before hval0 hW hL hS
 have hval : ∀ (j : Nat) t v, Tryz.f4.params[j]? = some t → args[j]? = some v → Value.okWide Tryz.prog W .any base t v := hval0
 have hW' := hW
 obtain ⟨p, q, hA0, hV, rfl, hfz, hnd⟩ := hW
 have hA : DataW.TrodAll enc Tryz.prog W 0 (fun _ => true) true Tryz.f4.params.toList args.toList ds p := hA0
 rw [Tryz.params4] at hA hval
 obtain ⟨v0, vs0, d0, ds0, p0, q0, hargs, rfl, rfl, h0, r0⟩ := trodAll_cons hA
 obtain ⟨v1, vs1, d1, ds1, p1, q1, rfl, rfl, rfl, h1, r1⟩ := trodAll_cons r0
 obtain ⟨rfl, rfl, rfl⟩ := trodAll_nil r1
 obtain rfl : args = #[v0, v1] := by cases args; simp_all
 obtain ⟨rfl, rfl⟩ := trodVars_none hV
 obtain ⟨a0, rfl, rfl, rfl, y0⟩ := open_string Tryz.underlying9 (hval 0 9 v0 rfl rfl) h0
 obtain ⟨a1, rfl, rfl, rfl, y1⟩ := open_string Tryz.underlying9 (hval 1 9 v1 rfl rfl) h1
 clear hA0 hval0
 refine (linesJoins_walk a0 a1 W (laid_of7 hL hS) y0 y1).mono fun e W' ⟨he, bel⟩ => ?_
 subst he
 exact ⟨_, rfl, _, _, _, [], _, [], hW', trodAll_mk1 (shut_bool Tryz.underlying4 _), (trodAll_cons_mk (shut_string Tryz.underlying9 y0) (trodAll_cons_mk (shut_string Tryz.underlying9 y1) trodAll_mk0)), rfl, bel.frame _, fun h => by cases h⟩
set_option maxRecDepth 100000 in
set_option maxHeartbeats 40000000 in
theorem closed : joinedFacts Tryz.prog 4 Tryz.f4 Rows.linesJoinsSpec Rows.linesJoinsRow = true := by
 simp only [joinedFacts, Bool.and_eq_true]
 repeat' (apply And.intro)
 all_goals as_aux_lemma => kernel_rfl
theorem over : Rows.LinesJoinsSaid :=
 OpenClaim.holds_of_wide 4 Tryz.f4 rfl rfl rfl rfl rfl rfl rfl ⟨rfl, rfl, rfl, rfl, rfl⟩ rfl rfl rfl rfl rfl (by as_aux_lemma => kernel_rfl) Tryz.func4 closed
  (of_decide_eq_true (by as_aux_lemma => kernel_rfl)) (by unfold Func.isWrapper; first | (rw [if_pos (by decide +kernel)]; as_aux_lemma => kernel_rfl) | (rw [if_neg (by decide +kernel)]; exact ⟨rfl, rfl⟩))
  (fun os started H enc _ => lifted os started H enc)
theorem card_holds : Rows.LinesJoinsCardSaid :=
 Claim7.holds_tied_plain_at .later [] [.data, .data, .data, .data, .sentinel, .sentinel, .pinned] true (true, "86f4c496e6335d2f0a25eed37ba6950d3f1303d0fb68c42f71f43e963f7b1f5e") true
  over (fun _ h => by cases h) (by as_aux_lemma => kernel_rfl) (fun _ h => by cases h) linesJoins_row_tie rfl ⟨rfl, rfl⟩ (by as_aux_lemma => kernel_rfl) rfl
  (fun f fn hf hfn => by
   obtain rfl : f = 4 := Option.some.inj ((show Tryz.prog.funcNamed "verso/versolaw20.LinesJoins" = some 4 by as_aux_lemma => kernel_rfl).symm.trans hf) |>.symm
   obtain rfl : fn = Tryz.f4 := (Option.some.inj (Tryz.func4.symm.trans hfn)).symm
   exact ⟨by as_aux_lemma => kernel_rfl, fun j t ht => by
    rw [Tryz.params4] at ht
    have hm : t ∈ [9, 9] := by simpa using Array.mem_of_getElem? ht
    have hall : ([9, 9].all fun u => !Tryz.prog.wantsStandIn u) = true := by as_aux_lemma => kernel_rfl
    exact (show Tryz.prog.wantsStandIn t = false by simpa using List.all_eq_true.1 hall t hm)⟩)
  (by as_aux_lemma => kernel_rfl)
#print axioms card_holds
end Go.Proofs.YtfaodacmdlnabaaGreatDoor.linesJoins
namespace Go.Proofs.YtfaodacmdlnabaaGreatDoor
/-- The card, under a short name, for the claim. -/
theorem linesJoins_holds : Rows.LinesJoinsCardSaid := linesJoins.card_holds
end Go.Proofs.YtfaodacmdlnabaaGreatDoor
