/-
  The row and the tied card of the law NodeSilent: for every posts and texts, without any condition of ours.
-/
import Derived.Test.YtcbagpippmbmfaaGreatDoorCards
import Derived.Test.YtcbagpippmbmfaaGreatDoorTie
import Derived.Test.YtcbagpippmbmfaaGreatDoorNrow
import Derived.SevenTiedAt
namespace Go.Proofs.YtcbagpippmbmfaaGreatDoor
open Go.RowKit
theorem nodeSilent_walk (u : Value) (a : List PostS) (v : Value) (b : List M.Str) (W : World) (_ : True) (hu : M.VR (M.Old W) W (.sl false 2 (a.map postRowS)) u) (hv : M.VR (M.Old W) W (.sl false 1 (b.map M.strRow)) v) :
    Calls Tryz.prog 3 #[u, v] W fun e w' => e = .returned (.bool true) ∧ Below W.heap.size W w' := by
  have e : a.map postRowS = M.postRows (a.map (·.1)) := by simp [M.postRows, postRowS]
  rw [e] at hu
  exact M.law_done (M.silent_law (a.map (·.1)) b (fun p hp => by obtain ⟨q, _, rfl⟩ := List.mem_map.1 hp; exact q.2)) (M.VRs.two hu hv)
end Go.Proofs.YtcbagpippmbmfaaGreatDoor
namespace Go.Proofs.YtcbagpippmbmfaaGreatDoor.nodeSilent
open Go.ChangeShapes Go.WideShapes Go.ChangeAt Go.RowKit
open Go.ChangeMaps (open_string shut_string)
set_option linter.unusedVariables false
set_option maxRecDepth 100000 in
theorem lifted (os : Os) (started : os.Started) (H : Type) (enc : TypeId × Value → H) :
    ReturnsInHanded {} Tryz.checked os 3 .any (fun w args => (Rows.nodeSilentSpec.pre enc Tryz.prog Tryz.f3 [] false w args ∧ laidMetH Tryz.prog laid7 w) ∧ sizedMet enc Tryz.prog Tryz.f3 (OpenSpec.ofChange Rows.nodeSilentSpec) false w args)
      (Rows.nodeSilentSpec.post enc Tryz.prog Tryz.f3 false true false false) := by
  refine shaped_and (C := Tryz.checked) (X := fun w _ => laidMetH Tryz.prog laid7 w) (fun _ _ _ hh h => h.of_heap hh) own started (by kernel_rfl) Tryz.func3
    (ChangeSpec.witness_shaped (enc := enc) (C := Tryz.checked) (os := os) (X := fun w _ => laidMetH Tryz.prog laid7 w) false (World.laidAll Tryz.prog os laid7) #[.slice none 0 0, .slice none 0 0] 8 (World.laidAll_os _ _ _) (shaped7 os) (by kernel_rfl) (by kernel_rfl) (by kernel_rfl) (door_met7 os _)) ?_
  intro W base args ds gs before hval0 hW hL hS
  have hval : ∀ (j : Nat) t v, Tryz.f3.params[j]? = some t → args[j]? = some v → Value.okWide Tryz.prog W .any base t v := hval0
  have hW' := hW
  obtain ⟨p, q, hA0, hV, rfl, hfz, hnd⟩ := hW
  have hA : DataW.TrodAll enc Tryz.prog W 0 (fun _ => true) true Tryz.f3.params.toList args.toList ds p := hA0
  rw [Tryz.params3] at hA hval
  obtain ⟨v0, vs0, d0, ds0, p0, q0, hargs, rfl, rfl, h0, r0⟩ := trodAll_cons hA
  obtain ⟨v1, vs1, d1, ds1, p1, q1, rfl, rfl, rfl, h1, r1⟩ := trodAll_cons r0
  obtain ⟨rfl, rfl, rfl⟩ := trodAll_nil r1
  obtain rfl : args = #[v0, v1] := by cases args; simp_all
  obtain ⟨rfl, rfl⟩ := trodVars_none hV
  have k0 := h0
  have lt0 : ∀ x ∈ p0, x.block < W.heap.size := by obtain ⟨m, hm⟩ := k0; exact DataW.trod_lt m _ _ _ hm
  obtain ⟨x0, w0⟩ := arg_posts (hval 0 22 v0 rfl rfl) h0
  have k1 := h1
  have lt1 : ∀ x ∈ p1, x.block < W.heap.size := by obtain ⟨m, hm⟩ := k1; exact DataW.trod_lt m _ _ _ hm
  obtain ⟨x1, w1⟩ := arg_texts (hval 1 23 v1 rfl rfl) h1
  clear hA0 hval0
  refine (nodeSilent_walk _ x0 _ x1 W (laid_of7 hL hS) w0 w1).mono fun e W' ⟨he, bel⟩ => ?_
  subst he
  exact ⟨_, rfl, _, _, _, [], _, [], hW', trodAll_mk1 (shut_bool Tryz.underlying4 _), (trodAll_cons_mk (Below.trod laidOut (by kernel_rfl) (of_decide_eq_true (by kernel_rfl)) k0 bel lt0) (trodAll_cons_mk (Below.trod laidOut (by kernel_rfl) (of_decide_eq_true (by kernel_rfl)) k1 bel lt1) trodAll_mk0)), rfl, bel.frame _, fun h => by cases h⟩
set_option maxRecDepth 100000 in
set_option maxHeartbeats 40000000 in
theorem closed : joinedFacts Tryz.prog 3 Tryz.f3 Rows.nodeSilentSpec Rows.nodeSilentRow = true := by
  simp only [joinedFacts, Bool.and_eq_true]
  repeat' (apply And.intro)
  all_goals as_aux_lemma => kernel_rfl
theorem over : Rows.NodeSilentSaid :=
  OpenClaim.holds_of_wide 3 Tryz.f3 rfl rfl rfl rfl rfl rfl rfl ⟨rfl, rfl, rfl, rfl, rfl⟩ rfl rfl rfl rfl rfl (by as_aux_lemma => kernel_rfl) Tryz.func3 closed
    (of_decide_eq_true (by as_aux_lemma => kernel_rfl)) (by unfold Func.isWrapper; first | (rw [if_pos (by decide +kernel)]; as_aux_lemma => kernel_rfl) | (rw [if_neg (by decide +kernel)]; exact ⟨rfl, rfl⟩))
    (fun os started H enc _ => lifted os started H enc)
theorem card_holds : Rows.NodeSilentCardSaid :=
  Claim7.holds_tied_plain_at .later [] [.data, .data, .data, .data, .sentinel, .sentinel, .pinned] true (true, "77ba9616efae6d62644df24c7c943bd29ae45fbca00f9d3e83ead03338d709b2") true
    over (fun _ h => by cases h) (by as_aux_lemma => kernel_rfl) (fun _ h => by cases h) nodeSilent_row_tie rfl ⟨rfl, rfl⟩ (by as_aux_lemma => kernel_rfl) rfl
    (fun f fn hf hfn => by
      obtain rfl : f = 3 := Option.some.inj ((show Tryz.prog.funcNamed "verso/versolaw18.NodeSilent" = some 3 by as_aux_lemma => kernel_rfl).symm.trans hf) |>.symm
      obtain rfl : fn = Tryz.f3 := (Option.some.inj (Tryz.func3.symm.trans hfn)).symm
      exact ⟨by as_aux_lemma => kernel_rfl, fun j t ht => by
        rw [Tryz.params3] at ht
        have hm : t ∈ [22, 23] := by simpa using Array.mem_of_getElem? ht
        have hall : ([22, 23].all fun u => !Tryz.prog.wantsStandIn u) = true := by as_aux_lemma => kernel_rfl
        exact (show Tryz.prog.wantsStandIn t = false by simpa using List.all_eq_true.1 hall t hm)⟩)
    (by as_aux_lemma => kernel_rfl)
#print axioms card_holds
end Go.Proofs.YtcbagpippmbmfaaGreatDoor.nodeSilent
namespace Go.Proofs.YtcbagpippmbmfaaGreatDoor
/-- The card, under a short name, for the claim. -/
theorem nodeSilent_holds : Rows.NodeSilentCardSaid := nodeSilent.card_holds
end Go.Proofs.YtcbagpippmbmfaaGreatDoor
