/-
  The row and the tied card of the law PolicyLets: for every two policies and every two texts, without any condition of ours; the listed variables are tied to the program's text by the given tie.
-/
import Derived.Test.YtpclcofdogcbjaaDoorCards
import Derived.Test.YtpclcofdogcbjaaDoorTie
import Derived.Test.YtpclcofdogcbjaaDoorProw
import Derived.Test.YtpclcofdogcbjaaDoorPlWalk
import Derived.SevenTiedAt
namespace Go.Proofs.YtpclcofdogcbjaaDoor
open Go.ChangeShapes Go.WideShapes Go.ChangeAt Go.RowKit
set_option maxRecDepth 100000
theorem policyLets_walk (v : Value) (p : M.Pol) (v1 : Value) (q : M.Pol) (v2 : Value) (x : M.Str × M.Str) (W : World) (L : M.Laid W) (hv : M.VR (M.Old W) W (.agg (M.polCells p)) v) (hv1 : M.VR (M.Old W) W (.agg (M.polCells q)) v1) (hv2 : M.VR (M.Old W) W (.agg [.v (.string x.1), .v (.string x.2)]) v2) :
    Calls Tryd.prog 5 #[v, v1, v2] W fun e w' => e = .returned (.bool true) ∧ Below W.heap.size W w' :=
  M.law_done (M.lets_law L p q x.1 x.2 (pol_lens hv) (pol_lens hv1)) (M.VRs.three hv hv1 hv2)
theorem okW_arr {w : World} {r : Reach} {b0 n : Nat} {t e : TypeId} {v : Value} (ht : Tryd.prog.underlying t = some (.array n e)) (h : Value.okWide Tryd.prog w r b0 t v) : ∃ cs, v = .agg cs ∧ cs.size = Tryd.prog.cellsOf t := by
  simp only [Value.okWide, ht] at h
  obtain ⟨cs, h1, h2, _⟩ := h
  exact ⟨cs, h1, h2⟩
set_option maxRecDepth 100000 in
set_option maxHeartbeats 2000000 in
theorem arg_two {H : Type} {enc : TypeId × Value → H} {w : World} {spare : Nat → Bool} {held : Bool} {r : Reach} {b0 : Nat} {v : Value} {d : DataW H} {p : List MemPlace} (hv : Value.okWide Tryd.prog w r b0 33 v) (h : DataW.Trod enc Tryd.prog w 0 spare held 33 v d p) : ∃ x : M.Str × M.Str, M.VR (M.Old w) w (.agg [.v (.string x.1), .v (.string x.2)]) v := by
  obtain ⟨vs, rfl, hsz⟩ := okW_arr Tryd.underlying33 hv
  obtain ⟨fuel, hf0⟩ := h
  obtain ⟨xs, n, rfl, _, hl, hxl, hf⟩ := DataW.trod_array Tryd.underlying33 hf0
  rw [show Tryd.prog.cellsOf 33 = 2 by kernel_rfl] at hl hsz
  have c1 : Tryd.prog.cellsOf 9 = 1 := by kernel_rfl
  rw [c1] at hf
  obtain ⟨l⟩ := vs
  match l, hsz, hf with
  | [a, b], _, hf =>
    have h0 := hf 0 (by decide)
    have h1 := hf 1 (by decide)
    obtain ⟨y0, e0⟩ : ∃ y, xs[0]? = some y := ⟨xs[0]'(by omega), List.getElem?_eq_getElem (by omega)⟩
    obtain ⟨y1, e1⟩ : ∃ y, xs[1]? = some y := ⟨xs[1]'(by omega), List.getElem?_eq_getElem (by omega)⟩
    rw [e0] at h0
    rw [e1] at h1
    obtain ⟨s0, q0, _⟩ := DataW.trod_string Tryd.underlying9 h0
    obtain ⟨s1, q1, _⟩ := DataW.trod_string Tryd.underlying9 h1
    cases q0
    cases q1
    refine ⟨(s0, s1), .agg (fun j => #[Value.string s0, .string s1].getD j undef) rfl (fun j hj => ?_) (fun j hj => ?_) (fun j hj => ?_)⟩
    · simp at hj ⊢
      simp [hj]
    · rcases j with _ | _ | j
      · rfl
      · rfl
      · simp at hj; omega
    · rcases j with _ | _ | j
      · exact .v _
      · exact .v _
      · simp at hj; omega
end Go.Proofs.YtpclcofdogcbjaaDoor
namespace Go.Proofs.YtpclcofdogcbjaaDoor.policyLets
open Go.ChangeShapes Go.WideShapes Go.ChangeAt Go.RowKit
open Go.ChangeMaps (open_string shut_string)
set_option linter.unusedVariables false
set_option maxRecDepth 100000 in
theorem lifted (os : Os) (started : os.Started) (H : Type) (enc : TypeId × Value → H) :
    ReturnsInHanded {} Tryd.checked os 5 .any (fun w args => (Rows.policyLetsSpec.pre enc Tryd.prog Tryd.f5 [] false w args ∧ laidMetH Tryd.prog laid3 w) ∧ sizedMet enc Tryd.prog Tryd.f5 (OpenSpec.ofChange Rows.policyLetsSpec) false w args)
      (Rows.policyLetsSpec.post enc Tryd.prog Tryd.f5 false true false false) := by
  refine shaped_and (C := Tryd.checked) (X := fun w _ => laidMetH Tryd.prog laid3 w) (fun _ _ _ hh h => h.of_heap hh) own started (by kernel_rfl) Tryd.func5
    (ChangeSpec.witness_shaped (enc := enc) (C := Tryd.checked) (os := os) (X := fun w _ => laidMetH Tryd.prog laid3 w) false (World.doorLaid Tryd.prog 400 os) #[.agg #[.int .i64 0, .slice none 0 0, .slice none 0 0, .slice none 0 0, .slice none 0 0, .slice none 0 0, .int .i64 0, .int .i64 0, .int .i64 0], .agg #[.int .i64 0, .slice none 0 0, .slice none 0 0, .slice none 0 0, .slice none 0 0, .slice none 0 0, .int .i64 0, .int .i64 0, .int .i64 0], .agg #[.string ByteArray.empty, .string ByteArray.empty]] 8 rfl (World.shaped_of_RefB (by kernel_rfl) (by kernel_rfl)) (by kernel_rfl) (by kernel_rfl) (by kernel_rfl) (door_met os _)) ?_
  intro W base args ds gs before hval0 hW hL hS
  have hval : ∀ (j : Nat) t v, Tryd.f5.params[j]? = some t → args[j]? = some v → Value.okWide Tryd.prog W .any base t v := hval0
  have hW' := hW
  obtain ⟨p, q, hA0, hV, rfl, hfz, hnd⟩ := hW
  have hA : DataW.TrodAll enc Tryd.prog W 0 (fun _ => true) true Tryd.f5.params.toList args.toList ds p := hA0
  rw [Tryd.params5] at hA hval
  obtain ⟨v0, vs0, d0, ds0, p0, q0, hargs, rfl, rfl, h0, r0⟩ := trodAll_cons hA
  obtain ⟨v1, vs1, d1, ds1, p1, q1, rfl, rfl, rfl, h1, r1⟩ := trodAll_cons r0
  obtain ⟨v2, vs2, d2, ds2, p2, q2, rfl, rfl, rfl, h2, r2⟩ := trodAll_cons r1
  obtain ⟨rfl, rfl, rfl⟩ := trodAll_nil r2
  obtain rfl : args = #[v0, v1, v2] := by cases args; simp_all
  obtain ⟨rfl, rfl⟩ := trodVars_none hV
  have k0 := h0
  have lt0 : ∀ x ∈ p0, x.block < W.heap.size := by obtain ⟨m, hm⟩ := k0; exact DataW.trod_lt m _ _ _ hm
  obtain ⟨x0, w0⟩ := arg_pol (hval 0 24 v0 rfl rfl) h0
  have k1 := h1
  have lt1 : ∀ x ∈ p1, x.block < W.heap.size := by obtain ⟨m, hm⟩ := k1; exact DataW.trod_lt m _ _ _ hm
  obtain ⟨x1, w1⟩ := arg_pol (hval 1 24 v1 rfl rfl) h1
  have k2 := h2
  have lt2 : ∀ x ∈ p2, x.block < W.heap.size := by obtain ⟨m, hm⟩ := k2; exact DataW.trod_lt m _ _ _ hm
  obtain ⟨x2, w2⟩ := arg_two (hval 2 33 v2 rfl rfl) h2
  clear hA0 hval0
  refine (policyLets_walk _ x0 _ x1 _ x2 W (laid_of hL hS) w0 w1 w2).mono fun e W' ⟨he, bel⟩ => ?_
  subst he
  exact ⟨_, rfl, _, _, _, [], _, [], hW', trodAll_mk1 (shut_bool Tryd.underlying4 _), (trodAll_cons_mk (Below.trod laidOut (by kernel_rfl) (of_decide_eq_true (by kernel_rfl)) k0 bel lt0) (trodAll_cons_mk (Below.trod laidOut (by kernel_rfl) (of_decide_eq_true (by kernel_rfl)) k1 bel lt1) (trodAll_cons_mk (Below.trod laidOut (by kernel_rfl) (of_decide_eq_true (by kernel_rfl)) k2 bel lt2) trodAll_mk0))), rfl, bel.frame _, fun h => by cases h⟩
theorem over : Rows.PolicyLetsSaid :=
  OpenClaim.holds_of_wide 5 Tryd.f5 rfl rfl rfl rfl rfl rfl rfl ⟨rfl, rfl, rfl, rfl, rfl⟩ rfl rfl rfl rfl rfl (by kernel_rfl) Tryd.func5 (by kernel_rfl)
    (of_decide_eq_true (by kernel_rfl)) (by unfold Func.isWrapper; first | (rw [if_pos (by decide +kernel)]; kernel_rfl) | (rw [if_neg (by decide +kernel)]; exact ⟨rfl, rfl⟩))
    (fun os started H enc _ => lifted os started H enc)
theorem card_holds : Rows.PolicyLetsCardSaid :=
  Claim7.holds_tied_plain_at .later [] [.data, .data, .data] true (true, "886029ff303ee20334cdd84fb5ba2998b98754ca836ea4daf1efa7f1275296e0") true
    over (fun _ h => by cases h) (by kernel_rfl) (fun _ h => by cases h) policyLets_row_tie rfl ⟨rfl, rfl⟩ (by kernel_rfl) rfl
    (fun f fn hf hfn => by
      obtain rfl : f = 5 := Option.some.inj ((show Tryd.prog.funcNamed "verso/versolaw08.PolicyLets" = some 5 by kernel_rfl).symm.trans hf) |>.symm
      obtain rfl : fn = Tryd.f5 := (Option.some.inj (Tryd.func5.symm.trans hfn)).symm
      exact ⟨by kernel_rfl, fun j t ht => by
        rw [Tryd.params5] at ht
        have hm : t ∈ [24, 24, 33] := by simpa using Array.mem_of_getElem? ht
        have hall : ([24, 24, 33].all fun u => !Tryd.prog.wantsStandIn u) = true := by kernel_rfl
        exact (show Tryd.prog.wantsStandIn t = false by simpa using List.all_eq_true.1 hall t hm)⟩)
    (by kernel_rfl)
#print axioms card_holds
end Go.Proofs.YtpclcofdogcbjaaDoor.policyLets
namespace Go.Proofs.YtpclcofdogcbjaaDoor
/-- The card, under a short name, for the claim. -/
theorem policyLets_holds : Rows.PolicyLetsCardSaid := policyLets.card_holds
end Go.Proofs.YtpclcofdogcbjaaDoor
