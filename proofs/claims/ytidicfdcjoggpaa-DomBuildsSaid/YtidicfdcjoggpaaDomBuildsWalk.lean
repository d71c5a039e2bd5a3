/-
  The law DomBuilds, walked.
-/
import Derived.Test.YtidicfdcjoggpaaDbBuild
import Derived.Test.YtidicfdcjoggpaaBridge2
import Derived.Test.YtidicfdcjoggpaaDomAwake
import Derived.Test.YtidicfdcjoggpaaDomLight
import Derived.Test.YtidicfdcjoggpaaDomFineLaw
import Derived.Test.YtidicfdcjoggpaaMV
namespace Go.Proofs.Ytidicfdcjoggpaa.M
open Go.RowKit
attribute [local go_sem] stk_nil stk_skip stk_ops stk_seq stk_block stk_scope stk_exit stk_ret stk_code_exit stk_code_ret stk_ops_exit stk_ops_ret stk_endb stk_endb_exit stk_endb_ret stk_endl stk_endl_exit stk_endl_ret stk_ops_nil stk_q stk_niq niqA flip srcOf stk_bsl side val bside bval uside uval cside cval bndS bndV intA isInt lside lval fside fval faside faval iside ival sxside sxval sizeA slside slval llside llval lenside lenval lenA tupA mmside mmval nkside boolA isBool ev_t ev_c tget put_s put_n lkside lkval menval stk_mk Option.isSome_some isMapA mapA keyA FZ_rfl FZ_any retOf true_and and_true if_true if_false decide_true decide_false Bool.not_true Bool.not_false Nat.zero_add List.map_cons List.map_nil Int.toNat_natCast strRows_len intRows_len List.getD_cons_zero List.getD_cons_succ List.length_cons List.length_nil List.forall_mem_cons List.not_mem_nil false_implies implies_true Int.ofNat_zero Int.natCast_add Int.natCast_one Int.ofNat_one Int.natCast_zero isB isU Bool.false_eq_true beq_self_eq_true Bool.false_beq Bool.true_beq Int.natCast_nonneg undef strRows_take strRows_drop Int.toNat_zero List.drop_zero Bool.and_true oneOr List.all_cons List.all_nil AVal.one Value.oneCell' Bool.true_and List.take_length stk_st' stside stH hp_self hp_hp isnside isnval
set_option linter.unusedVariables false
set_option linter.unusedSimpArgs false
theorem lift_oneB {W : World} {f : FuncId} {x : AVal} {R : Bool → Prop} (h : ∀ (S : Nat → Prop) w u, VR S w x u → Calls Try.prog f #[u] w fun e w' => (∃ b, e = .returned (.bool b) ∧ R b) ∧ Below w.heap.size w w') : ACalls Try.prog W f [x] AHeap.none fun v _ => ∃ b, v = .v (.bool b) ∧ R b := by
  intro S w us hw hv
  obtain ⟨hsz, hv⟩ := hv
  have h0 := hv 0 (by simp) (by rw [hsz]; simp)
  obtain ⟨u, rfl⟩ : ∃ u, us = #[u] := ⟨us[0]'(by rw [hsz]; simp), by
    apply Array.ext
    · simpa using hsz
    · intro i h1 h2; simp at h2; subst h2; rfl⟩
  simp only [List.getElem_cons_zero, List.getElem_toArray] at h0
  refine (h S w u h0).mono ?_
  rintro e w' ⟨⟨b, rfl, hr⟩, hb⟩
  obtain ⟨h1, h2⟩ := below_facts hw hb
  exact ⟨_, AHeap.none, S, _, ⟨b, rfl, hr⟩, rfl, h1, h2, .v _⟩
theorem light04_ok {W : World} (f : Bool) (l : List Token) : ACalls Try.prog W 12 [.sl f 5 (l.map tokRow)] AHeap.none fun v _ => ∃ b, v = .v (.bool b) ∧ (b = true → toksW l < 6000) :=
  lift_oneB fun S w u hu => (light_any w S u l (toks_to hu)).mono fun e w' ⟨h, hu⟩ => ⟨h, hu.below⟩
theorem named04_ok {W : World} (f : Bool) (l : List Token) : ACalls Try.prog W 13 [.sl f 5 (l.map tokRow)] AHeap.none fun v _ => ∃ b, v = .v (.bool b) ∧ (b = true → ∀ t ∈ l, t.kind = 2 → t.name ≠ ByteArray.empty) :=
  lift_oneB fun S w u hu => (named_any w S u l (toks_to hu)).mono fun e w' ⟨h, hu⟩ => ⟨h, hu ▸ Below.refl _ _⟩
theorem light_text {l : List Token} (h : toksW l < 6000) : ∀ t ∈ l, t.text.size ≤ 6000 := fun t ht => by
  have := light_mem ht
  simp only [tokW] at this
  omega
theorem same04_nil {W : World} : ACalls Try.prog W 16 [.v (.slice none 0 0), .v (.slice none 0 0)] AHeap.none fun v _ => v = .v (.bool true) :=
  ACalls.args (same04_ok 1 [] (by rw [nCount_nil]; omega) (by omega) (by rw [AFew]; trivial)) (VRs.map2 (fun _ _ _ h => VR.nilrow 4 h) (fun _ _ _ h => VR.nilrow 4 h))
def c_law_Builds : AFn := ⟨1, 45, [2],
  .seq (.ops [⟨(some 2), none, .q (.mv (.const (.bool false)))⟩])
  (.seq (.ops [⟨(some 11), none, .e (.call 11 [])⟩,
      ⟨(some 3), none, .q (.mv (.tmp 11))⟩])
  (.seq (.ops [⟨(some 12), none, .q (.mv (.tmp 0))⟩,
      ⟨(some 13), none, .e (.call 12 [(.tmp 12)])⟩,
      ⟨(some 4), none, .q (.mv (.tmp 13))⟩])
  (.seq (.ops [⟨(some 14), none, .q (.mv (.tmp 0))⟩,
      ⟨(some 15), none, .e (.call 13 [(.tmp 14)])⟩,
      ⟨(some 5), none, .q (.mv (.tmp 15))⟩])
  (.seq (.seq (.ops [⟨(some 16), none, .q (.mv (.tmp 4))⟩,
      ⟨(some 17), none, .q (.un .not (.tmp 16))⟩,
      ⟨(some 18), none, .q (.mv (.tmp 17))⟩,
      ⟨(some 19), (some (18, false)), .q (.mv (.tmp 5))⟩,
      ⟨(some 20), (some (18, false)), .q (.un .not (.tmp 19))⟩,
      ⟨(some 21), none, .q (.pick (.tmp 18) (.const (.bool true)) (.tmp 20))⟩])
  (.cond (.tmp 21)
    (.seq (.ops [⟨(some 22), none, .q (.mv (.tmp 3))⟩,
        ⟨(some 2), none, .q (.mv (.tmp 22))⟩])
    (.ret))
    (.skip)))
  (.seq (.ops [⟨(some 24), none, .q (.mv (.tmp 0))⟩,
      ⟨(some 25), none, .e (.call 14 [(.tmp 24)])⟩,
      ⟨(some 23), none, .q (.mv (.tmp 25))⟩,
      ⟨(some 26), none, .q (.ext (.tmp 23) 0)⟩,
      ⟨(some 27), none, .q (.ext (.tmp 23) 1)⟩,
      ⟨(some 6), none, .q (.mv (.tmp 26))⟩,
      ⟨(some 7), none, .q (.mv (.tmp 27))⟩])
  (.seq (.ops [⟨(some 29), none, .q (.mv (.tmp 0))⟩,
      ⟨(some 30), none, .e (.call 15 [(.tmp 29)])⟩,
      ⟨(some 28), none, .q (.mv (.tmp 30))⟩,
      ⟨(some 31), none, .q (.ext (.tmp 28) 0)⟩,
      ⟨(some 32), none, .q (.ext (.tmp 28) 1)⟩,
      ⟨(some 8), none, .q (.mv (.tmp 31))⟩,
      ⟨(some 9), none, .q (.mv (.tmp 32))⟩])
  (.seq (.ops [⟨(some 33), none, .q (.mv (.tmp 6))⟩,
      ⟨(some 34), none, .q (.mv (.tmp 8))⟩,
      ⟨(some 35), none, .e (.call 16 [(.tmp 33), (.tmp 34)])⟩,
      ⟨(some 10), none, .q (.mv (.tmp 35))⟩])
  (.seq (.ops [⟨(some 36), none, .q (.mv (.tmp 3))⟩,
      ⟨(some 37), none, .q (.mv (.tmp 36))⟩,
      ⟨(some 38), (some (37, true)), .q (.mv (.tmp 10))⟩,
      ⟨(some 39), none, .q (.pick (.tmp 37) (.tmp 38) (.const (.bool false)))⟩,
      ⟨(some 40), none, .q (.mv (.tmp 39))⟩,
      ⟨(some 41), (some (40, true)), .q (.mv (.tmp 7))⟩,
      ⟨(some 42), (some (40, true)), .q (.mv (.tmp 9))⟩,
      ⟨(some 43), (some (40, true)), .q (.bin .eql .num (.tmp 41) (.tmp 42))⟩,
      ⟨(some 44), none, .q (.pick (.tmp 40) (.tmp 43) (.const (.bool false)))⟩,
      ⟨(some 2), none, .q (.mv (.tmp 44))⟩])
  (.ret))))))))), []⟩
theorem k_law_Builds : compF Try.prog 3 = some c_law_Builds := by kernel_rfl
set_option maxHeartbeats 4000000 in
theorem builds_law {W : World} (f : Bool) (l : List Token) : ACalls Try.prog W 3 [.sl f 5 (l.map tokRow)] AHeap.none fun r _ => r = .v (.bool true) := by
  refine fn_run follows k_law_Builds rfl ?_
  simp only [c_law_Builds, aretC_nil, List.zipIdx_cons, List.zipIdx_nil, List.map_cons, List.map_nil, Nat.zero_add]
  (try simp +decide (implicitDefEqProofs := false) only [go_sem, ↓stk_g, ↓stk_c, ↓reduceIte])
  refine stk_pure (lift_none (u := .bool true) (fun w => (awake_any w).mono fun e w' h => ⟨h.1, h.2.below⟩)) fun v hv => ?_
  subst hv
  (try simp +decide (implicitDefEqProofs := false) only [go_sem, ↓stk_g, ↓stk_c, ↓reduceIte])
  refine stk_pure (light04_ok f l) fun v hv => ?_
  obtain ⟨b1, rfl, h1⟩ := hv
  (try simp +decide (implicitDefEqProofs := false) only [go_sem, ↓stk_g, ↓stk_c, ↓reduceIte])
  refine stk_pure (named04_ok f l) fun v hv => ?_
  obtain ⟨b2, rfl, h2⟩ := hv
  cases b1
  · (try simp +decide (implicitDefEqProofs := false) only [go_sem, ↓stk_g, ↓stk_c, ↓reduceIte])
    refine aret_pure (.inr rfl) ?_; simp +decide only [retOf, tget, if_true, if_false, ↓reduceIte, List.map_cons, List.map_nil]
  cases b2
  · (try simp +decide (implicitDefEqProofs := false) only [go_sem, ↓stk_g, ↓stk_c, ↓reduceIte])
    refine aret_pure (.inr rfl) ?_; simp +decide only [retOf, tget, if_true, if_false, ↓reduceIte, List.map_cons, List.map_nil]
  have hlt := h1 rfl
  have hnm := h2 rfl
  have hsum := light_sum l hlt
  have hat := light_attrs hlt
  have htx := light_text hlt
  (try simp +decide (implicitDefEqProofs := false) only [go_sem, ↓stk_g, ↓stk_c, ↓reduceIte])
  refine stk_pure (build_ok f l (by omega) hat (by omega)) fun v hv => ?_
  have hb4 := build04_ok (W := W) f l (by omega) htx
  rw [buildF_eq l hnm] at hb4
  unfold buildR at hv
  have hfew := fun ns => buildF_AFew (l := l) (ns := ns) hat
  rw [buildF_eq l hnm] at hfew
  cases hb : build l with
  | none =>
    rw [hb] at hv hb4
    subst hv
    unfold buildFR at hb4
    dsimp only at hb4
    (try simp +decide (implicitDefEqProofs := false) only [go_sem, ↓stk_g, ↓stk_c, ↓reduceIte, lay, oneOr, List.take_succ_cons, List.take_zero, List.drop_succ_cons, List.drop_zero, List.nil_append, List.cons_append, Option.getD_some, Nat.reduceAdd, Nat.reduceLeDiff, List.append_nil, and_self, List.all_cons, List.all_nil])
    refine stk_pure hb4 fun v hv => ?_
    subst hv
    (try simp +decide (implicitDefEqProofs := false) only [go_sem, ↓stk_g, ↓stk_c, ↓reduceIte, lay, oneOr, List.take_succ_cons, List.take_zero, List.drop_succ_cons, List.drop_zero, List.nil_append, List.cons_append, Option.getD_some, Nat.reduceAdd, Nat.reduceLeDiff, List.append_nil, and_self, List.all_cons, List.all_nil])
    refine stk_pure (same04_nil) fun v hv => ?_
    subst hv
    (try simp +decide (implicitDefEqProofs := false) only [go_sem, ↓stk_g, ↓stk_c, ↓reduceIte, lay, oneOr, List.take_succ_cons, List.take_zero, List.drop_succ_cons, List.drop_zero, List.nil_append, List.cons_append, Option.getD_some, Nat.reduceAdd, Nat.reduceLeDiff, List.append_nil, and_self, List.all_cons, List.all_nil])
    refine aret_pure (.inr rfl) ?_; simp +decide only [retOf, tget, if_true, if_false, ↓reduceIte, List.map_cons, List.map_nil]
  | some ns =>
    rw [hb] at hv hb4
    subst hv
    unfold buildFR at hb4
    dsimp only at hb4
    obtain ⟨hf1, hf2, hf3⟩ := build_fine l ns hnm hb
    have hsm := same04_ok (W := W) (nCount ns + 1) ns (by omega) (by omega) (hfew ns hb)
    (try simp +decide (implicitDefEqProofs := false) only [go_sem, ↓stk_g, ↓stk_c, ↓reduceIte, lay, oneOr, List.take_succ_cons, List.take_zero, List.drop_succ_cons, List.drop_zero, List.nil_append, List.cons_append, Option.getD_some, Nat.reduceAdd, Nat.reduceLeDiff, List.append_nil, and_self, List.all_cons, List.all_nil])
    refine stk_pure hb4 fun v hv => ?_
    subst hv
    (try simp +decide (implicitDefEqProofs := false) only [go_sem, ↓stk_g, ↓stk_c, ↓reduceIte, lay, oneOr, List.take_succ_cons, List.take_zero, List.drop_succ_cons, List.drop_zero, List.nil_append, List.cons_append, Option.getD_some, Nat.reduceAdd, Nat.reduceLeDiff, List.append_nil, and_self, List.all_cons, List.all_nil])
    refine stk_pure (hsm) fun v hv => ?_
    subst hv
    (try simp +decide (implicitDefEqProofs := false) only [go_sem, ↓stk_g, ↓stk_c, ↓reduceIte, lay, oneOr, List.take_succ_cons, List.take_zero, List.drop_succ_cons, List.drop_zero, List.nil_append, List.cons_append, Option.getD_some, Nat.reduceAdd, Nat.reduceLeDiff, List.append_nil, and_self, List.all_cons, List.all_nil])
    refine aret_pure (.inr rfl) ?_; simp +decide only [retOf, tget, if_true, if_false, ↓reduceIte, List.map_cons, List.map_nil]
end Go.Proofs.Ytidicfdcjoggpaa.M
