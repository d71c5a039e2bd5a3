/-
  A node that takes a digest; the laws' awake: walked.
-/
import Derived.Test.YtcbagpippmbmfaaGreatDoorNe
namespace Go.Proofs.YtcbagpippmbmfaaGreatDoor.M
open Go.RowKit
attribute [local go_sem] stk_nil stk_skip stk_ops stk_seq stk_block stk_scope stk_exit stk_ret stk_code_exit stk_code_ret stk_ops_exit stk_ops_ret stk_endb stk_endb_exit stk_endb_ret stk_endl stk_endl_exit stk_endl_ret stk_ops_nil stk_q stk_niq niqA flip srcOf stk_bsl side val bside bval uside uval cside cval bndS bndV intA isInt lside lval fside fval faside faval iside ival sxside sxval sizeA slside slval llside llval lenside lenval lenA tupA mmside mmval nkside boolA isBool ev_t ev_c tget put_s put_n lkside lkval menval stk_mk Option.isSome_some isMapA mapA keyA FZ_rfl FZ_any retOf true_and and_true if_true if_false decide_true decide_false Bool.not_true Bool.not_false Nat.zero_add List.map_cons List.map_nil Int.toNat_natCast strRows_len intRows_len List.getD_cons_zero List.getD_cons_succ List.length_cons List.length_nil List.forall_mem_cons List.not_mem_nil false_implies implies_true Int.ofNat_zero Int.natCast_add Int.natCast_one Int.ofNat_one Int.natCast_zero isB isU Bool.false_eq_true beq_self_eq_true Bool.false_beq Bool.true_beq Int.natCast_nonneg undef strRows_take strRows_drop Int.toNat_zero List.drop_zero Bool.and_true oneOr List.all_cons List.all_nil AVal.one Value.oneCell' Bool.true_and List.take_length stk_st' stside stH hp_self hp_hp isnside isnval
set_option linter.unusedVariables false
set_option linter.unusedSimpArgs false
def c_nTake : AFn := ⟨2, 40, [4, 5],
  .seq (.ops [⟨(some 3), none, .e (.box 41 (.tmp 1))⟩,
      ⟨(some 4), none, .q (.mv (.const (.slice none 0 0)))⟩,
      ⟨(some 5), none, .q (.mv (.const (.int .i64 0)))⟩])
  (.seq (.ops [⟨(some 9), none, .q (.mv (.tmp 0))⟩,
      ⟨(some 10), none, .q (.nck (.tmp 9))⟩,
      ⟨(some 11), none, .q (.fad 2 1 (.tmp 10))⟩,
      ⟨(some 12), none, .q (.ld false 1 (.tmp 11))⟩,
      ⟨(some 13), none, .q (.fad 0 1 (.tmp 3))⟩,
      ⟨(some 14), none, .q (.ld false 1 (.tmp 13))⟩,
      ⟨(some 15), none, .q (.lk (some .i64) true .nilFunc (.tmp 12) (.tmp 14))⟩,
      ⟨(some 8), none, .q (.mv (.tmp 15))⟩,
      ⟨(some 16), none, .q (.ext (.tmp 8) 0)⟩,
      ⟨(some 17), none, .q (.ext (.tmp 8) 1)⟩,
      ⟨(some 6), none, .q (.mv (.tmp 16))⟩,
      ⟨(some 7), none, .q (.mv (.tmp 17))⟩])
  (.seq (.seq (.ops [⟨(some 18), none, .q (.mv (.tmp 7))⟩,
      ⟨(some 19), none, .q (.un .not (.tmp 18))⟩,
      ⟨(some 20), none, .q (.mv (.tmp 19))⟩,
      ⟨(some 21), (some (20, false)), .q (.ld true 15 (.tmp 3))⟩,
      ⟨(some 22), (some (20, false)), .e (.call 19 [(.tmp 21)])⟩,
      ⟨(some 23), (some (20, false)), .q (.un .not (.tmp 22))⟩,
      ⟨(some 24), none, .q (.pick (.tmp 20) (.const (.bool true)) (.tmp 23))⟩,
      ⟨(some 25), none, .q (.mv (.tmp 24))⟩,
      ⟨(some 26), (some (25, false)), .q (.fad 2 1 (.tmp 3))⟩,
      ⟨(some 27), (some (25, false)), .q (.ld false 1 (.tmp 26))⟩,
      ⟨(some 28), (some (25, false)), .q (.mv (.tmp 0))⟩,
      ⟨(some 29), (some (25, false)), .q (.nck (.tmp 28))⟩,
      ⟨(some 30), (some (25, false)), .q (.fad 0 1 (.tmp 29))⟩,
      ⟨(some 31), (some (25, false)), .q (.ld false 1 (.tmp 30))⟩,
      ⟨(some 32), (some (25, false)), .q (.bin .neq .num (.tmp 27) (.tmp 31))⟩,
      ⟨(some 33), none, .q (.pick (.tmp 25) (.const (.bool true)) (.tmp 32))⟩])
  (.cond (.tmp 33)
    (.seq (.ops [⟨(some 4), none, .q (.mv (.const (.slice none 0 0)))⟩,
        ⟨(some 5), none, .q (.mv (.const (.int .i64 1)))⟩])
    (.ret))
    (.skip)))
  (.seq (.ops [⟨(some 34), none, .q (.mv (.tmp 6))⟩,
      ⟨(some 35), none, .q (.mv (.tmp 0))⟩,
      ⟨(some 36), none, .q (.ld true 15 (.tmp 3))⟩,
      ⟨(some 37), none, .e (.callv (.tmp 34) [(.tmp 35), (.tmp 36)])⟩,
      ⟨(some 38), none, .q (.ext (.tmp 37) 0)⟩,
      ⟨(some 39), none, .q (.ext (.tmp 37) 1)⟩,
      ⟨(some 4), none, .q (.mv (.tmp 38))⟩,
      ⟨(some 5), none, .q (.mv (.tmp 39))⟩])
  (.ret)))), []⟩
theorem k_nTake : compF Tryz.prog 14 = some c_nTake := by kernel_rfl
set_option maxHeartbeats 4000000 in
theorem nTake_ok {W : World} {H : AHeap} {g s l0 d ps st does used : Nat} {pl : List (Str × Nat × AVal)} (h : Nod H g 1 s l0 d ps st does used pl) (ids : List Str) (hids : ids.length ≤ 64) (hr : riseIds ByteArray.empty ids = true) :
    ACalls Tryz.prog W 14 [ptr g, .agg (digC (.sl false 1 (strRows ids)))] H fun v H' => ∃ Y, v = .tup [Y, .v (.int .i64 0)] ∧ Answer H' 1 pl (lacksS ids (sortS (pl.map (·.1)))) Y := by
  refine fn_run follows k_nTake rfl ?_
  simp only [c_nTake, aretC_nil, List.zipIdx_cons, List.zipIdx_nil, List.map_cons, List.map_nil, Nat.zero_add]
  (try simp +decide (implicitDefEqProofs := false) only [go_sem, ↓stk_g, ↓stk_c, ↓reduceIte])
  rw [stk_box]
  refine ⟨by rfl, fun b hb => ?_⟩
  have hb : H b = none := hb
  have hbs := put_self H b (.cells tMsg (digC (.sl false 1 (strRows ids))))
  have hall : All H (H.put b (.cells tMsg (digC (.sl false 1 (strRows ids))))) := All.new hb
  show stk _ _ _ _ _ (AState.put ⟨_, H.put b (.cells tMsg (digC (.sl false 1 (strRows ids))))⟩ _ _)
  generalize H.put b (.cells tMsg (digC (.sl false 1 (strRows ids)))) = H1 at hbs hall ⊢
  have hnod := h.all hall
  have hdig := nDig_ok (W := W) hnod ids (by omega)
  have hright := mrightD_ok (W := W) ids hids hr
  have hg := hnod.here
  have hdo := hnod.fns
  have k1 : (doesL.all fun e => kOk (some .i64) e.1) = true := rfl
  have k2 : kOk (some .i64) (.int .i64 1) = true := rfl
  have k3 : mget (.int .i64 1) doesL = some (.fn 41 []) := rfl
  have d1 : decide (¬ (1 : Int) = 1) = false := by decide
  unfold nodeCells at hg
  unfold digC at hbs hright hdig
  (try simp +decide (implicitDefEqProofs := false) only [go_sem, ↓stk_g, ↓stk_c, ↓reduceIte, hbs, hg, hdo, k1, k2, k3, Option.getD_some, Option.isSome_some, lay, oneOr, List.take_succ_cons, List.take_zero, List.drop_succ_cons, List.drop_zero, List.nil_append, List.cons_append, Option.getD_some, Nat.reduceAdd, Nat.reduceLeDiff, List.append_nil, and_self, List.all_cons, List.all_nil])
  refine stk_pure hright fun v hv => ?_
  subst hv
  (try simp +decide (implicitDefEqProofs := false) only [go_sem, ↓stk_g, ↓stk_c, ↓reduceIte, hbs, hg, d1, ne_eq, not_true_eq_false, lay, oneOr, List.take_succ_cons, List.take_zero, List.drop_succ_cons, List.drop_zero, List.nil_append, List.cons_append, Option.getD_some, Nat.reduceAdd, Nat.reduceLeDiff, List.append_nil, and_self, List.all_cons, List.all_nil])
  refine stk_callvH (f := 41) (caps := []) rfl (by kernel_rfl) hdig fun v H2 hv => ?_
  obtain ⟨Y, rfl, hans⟩ := hv
  (try simp +decide (implicitDefEqProofs := false) only [go_sem, ↓stk_g, ↓stk_c, ↓reduceIte, lay, oneOr, List.take_succ_cons, List.take_zero, List.drop_succ_cons, List.drop_zero, List.nil_append, List.cons_append, Option.getD_some, Nat.reduceAdd, Nat.reduceLeDiff, List.append_nil, and_self, List.all_cons, List.all_nil])
  exact ⟨.inr rfl, _, _, Sub.refl _, .refl _, Y, rfl, hans⟩
/-- A digest of nothing. -/
theorem ACalls.nilDig {W : World} {f : FuncId} {p : AVal} {H : AHeap} {K : AVal → AHeap → Prop} (h : ACalls Tryz.prog W f [p, .agg (digC (.sl false 1 []))] H K) : ACalls Tryz.prog W f [p, .agg (digC nil)] H K :=
  h.args (VRs.map2 (fun _ _ _ h => h) (fun S w u h => by
    cases h with
    | agg us hl hv ho h =>
      refine .agg us hl hv (fun j hj => ?_) (fun j hj => ?_)
      · have := ho j hj
        rcases j with _ | _ | _ | _ | _ | j
        · exact this
        · exact this
        · exact this
        · exact this
        · rfl
        · exact this
      · have := h j hj
        rcases j with _ | _ | _ | _ | _ | j
        · exact this
        · exact this
        · exact this
        · exact this
        · exact VR.nilrow 1 this
        · exact this))
def c_awake : AFn := ⟨0, 54, [0],
  .seq (.ops [⟨(some 0), none, .q (.mv (.const (.bool false)))⟩])
  (.seq (.ops [⟨(some 7), none, .e (.call 11 [])⟩,
      ⟨(some 8), none, .e (.call 10 [(.const (.int .i64 1)), (.tmp 7)])⟩,
      ⟨(some 6), none, .q (.mv (.tmp 8))⟩,
      ⟨(some 9), none, .q (.ext (.tmp 6) 0)⟩,
      ⟨(some 10), none, .q (.ext (.tmp 6) 1)⟩,
      ⟨(some 1), none, .q (.mv (.tmp 9))⟩,
      ⟨(some 2), none, .q (.mv (.tmp 10))⟩])
  (.seq (.seq (.ops [⟨(some 11), none, .q (.mv (.tmp 1))⟩,
      ⟨(some 12), none, .q (.bin .eql .ptr (.tmp 11) (.const (.pointer none)))⟩,
      ⟨(some 13), none, .q (.mv (.tmp 12))⟩,
      ⟨(some 14), (some (13, false)), .q (.mv (.tmp 2))⟩,
      ⟨(some 15), (some (13, false)), .q (.bin .neq .num (.tmp 14) (.const (.int .i64 0)))⟩,
      ⟨(some 16), none, .q (.pick (.tmp 13) (.const (.bool true)) (.tmp 15))⟩])
  (.cond (.tmp 16)
    (.seq (.ops [⟨(some 0), none, .q (.mv (.const (.bool false)))⟩])
    (.ret))
    (.skip)))
  (.seq (.ops [⟨(some 17), none, .q (.mv (.tmp 1))⟩,
      ⟨(some 18), none, .e (.call 12 [(.tmp 17), (.const (.string ⟨#[97]⟩)), (.const (.string ⟨#[120]⟩))])⟩,
      ⟨(some 3), none, .q (.mv (.tmp 18))⟩])
  (.seq (.ops [⟨(some 20), none, .q (.mv (.tmp 1))⟩,
      ⟨(some 21), none, .q (.bld [(.int .i64 0), (.int .i64 0), (.int .i64 0), (.int .i64 0), (.slice none 0 0), (.slice none 0 0), (.int .i64 0), (.slice none 0 0), (.slice none 0 0), (.slice none 0 0), (.slice none 0 0), (.slice none 0 0), (.int .i64 0), (.int .i64 0), (.int .i64 0)] [(0, 1, (.const (.int .i64 1))), (1, 1, (.const (.int .i64 2))), (2, 1, (.const (.int .i64 1)))])⟩,
      ⟨(some 22), none, .e (.call 14 [(.tmp 20), (.tmp 21)])⟩,
      ⟨(some 19), none, .q (.mv (.tmp 22))⟩,
      ⟨(some 23), none, .q (.ext (.tmp 19) 0)⟩,
      ⟨(some 24), none, .q (.ext (.tmp 19) 1)⟩,
      ⟨(some 4), none, .q (.mv (.tmp 23))⟩,
      ⟨(some 5), none, .q (.mv (.tmp 24))⟩])
  (.seq (.ops [⟨(some 25), none, .q (.mv (.tmp 3))⟩,
      ⟨(some 26), none, .q (.bin .eql .num (.tmp 25) (.const (.int .i64 0)))⟩,
      ⟨(some 27), none, .q (.mv (.tmp 26))⟩,
      ⟨(some 28), (some (27, true)), .q (.mv (.tmp 5))⟩,
      ⟨(some 29), (some (27, true)), .q (.bin .eql .num (.tmp 28) (.const (.int .i64 0)))⟩,
      ⟨(some 30), none, .q (.pick (.tmp 27) (.tmp 29) (.const (.bool false)))⟩,
      ⟨(some 31), none, .q (.mv (.tmp 30))⟩,
      ⟨(some 32), (some (31, true)), .q (.mv (.tmp 4))⟩,
      ⟨(some 33), (some (31, true)), .q (.len false (.tmp 32))⟩,
      ⟨(some 34), (some (31, true)), .q (.bin .eql .num (.tmp 33) (.const (.int .i64 1)))⟩,
      ⟨(some 35), none, .q (.pick (.tmp 31) (.tmp 34) (.const (.bool false)))⟩,
      ⟨(some 36), none, .q (.mv (.tmp 35))⟩,
      ⟨(some 37), (some (36, true)), .q (.mv (.tmp 4))⟩,
      ⟨(some 38), (some (36, true)), .q (.ixa 15 (.tmp 37) (.const (.int .i64 0)))⟩,
      ⟨(some 39), (some (36, true)), .q (.fad 5 1 (.tmp 38))⟩,
      ⟨(some 40), (some (36, true)), .q (.ld false 1 (.tmp 39))⟩,
      ⟨(some 41), (some (36, true)), .q (.len false (.tmp 40))⟩,
      ⟨(some 42), (some (36, true)), .q (.bin .eql .num (.tmp 41) (.const (.int .i64 1)))⟩,
      ⟨(some 43), none, .q (.pick (.tmp 36) (.tmp 42) (.const (.bool false)))⟩,
      ⟨(some 44), none, .q (.mv (.tmp 43))⟩,
      ⟨(some 45), (some (44, true)), .q (.mv (.tmp 4))⟩,
      ⟨(some 46), (some (44, true)), .q (.ixa 15 (.tmp 45) (.const (.int .i64 0)))⟩,
      ⟨(some 47), (some (44, true)), .q (.fad 5 1 (.tmp 46))⟩,
      ⟨(some 48), (some (44, true)), .q (.ld false 1 (.tmp 47))⟩,
      ⟨(some 49), (some (44, true)), .q (.ixa 2 (.tmp 48) (.const (.int .i64 0)))⟩,
      ⟨(some 50), (some (44, true)), .q (.fad 1 1 (.tmp 49))⟩,
      ⟨(some 51), (some (44, true)), .q (.ld false 1 (.tmp 50))⟩,
      ⟨(some 52), (some (44, true)), .q (.bin .eql .num (.tmp 51) (.const (.string ⟨#[120]⟩)))⟩,
      ⟨(some 53), none, .q (.pick (.tmp 44) (.tmp 52) (.const (.bool false)))⟩,
      ⟨(some 0), none, .q (.mv (.tmp 53))⟩])
  (.ret)))))), []⟩
theorem k_awake : compF Tryz.prog 9 = some c_awake := by kernel_rfl
set_option maxHeartbeats 4000000 in
theorem awakeN_ok {W : World} : ACalls Tryz.prog W 9 [] AHeap.none fun v _ => v = .v (.bool true) := by
  refine fn_run follows k_awake rfl ?_
  simp only [c_awake, aretC_nil, List.zipIdx_cons, List.zipIdx_nil, List.map_cons, List.map_nil, Nat.zero_add]
  (try simp +decide (implicitDefEqProofs := false) only [go_sem, ↓stk_g, ↓stk_c, ↓reduceIte])
  refine stk_call devNew_ok fun v H1 hv => ?_
  obtain ⟨d, hd, rfl, rfl⟩ := hv
  have hdev : DevH (AHeap.none.put d (.cells tDev (devCells nil 0))) d nil [] 0 := ⟨put_self _ _ _, .nil, by simp⟩
  (try simp +decide (implicitDefEqProofs := false) only [go_sem, ↓stk_g, ↓stk_c, ↓reduceIte])
  refine stk_call (nOpen_ok hdev) fun v H2 hv => ?_
  obtain ⟨g, s, l, ps, st, does, rfl, hnod⟩ := hv
  (try simp +decide (implicitDefEqProofs := false) only [go_sem, ↓stk_g, ↓stk_c, ↓reduceIte, Option.isNone_some, ne_eq, not_true_eq_false, lay, oneOr, List.take_succ_cons, List.take_zero, List.drop_succ_cons, List.drop_zero, List.nil_append, List.cons_append, Option.getD_some, Nat.reduceAdd, Nat.reduceLeDiff, List.append_nil, and_self, List.all_cons, List.all_nil])
  refine stk_call (nIngest_ok hnod ⟨#[97]⟩ ⟨#[120]⟩ (by decide)) fun v H3 hv => ?_
  obtain ⟨e, pl, rfl, hnod2, _, he⟩ := hv
  obtain ⟨rfl, c, rfl⟩ := he (by decide) (by decide)
  (try simp +decide (implicitDefEqProofs := false) only [go_sem, ↓stk_g, ↓stk_c, ↓reduceIte, lay, oneOr, List.take_succ_cons, List.take_zero, List.drop_succ_cons, List.drop_zero, List.nil_append, List.cons_append, Option.getD_some, Nat.reduceAdd, Nat.reduceLeDiff, List.append_nil, and_self, List.all_cons, List.all_nil])
  have htk := nTake_ok (W := W) hnod2 [] (by simp) rfl
  rw [List.nil_append] at hnod2 htk
  have hkeys : sortS ([((⟨#[97]⟩ : ByteArray), c, keptV ⟨#[97]⟩ ⟨#[120]⟩)].map (·.1)) = [⟨#[97]⟩] := List.perm_singleton.1 (sortS_perm _)
  have hlk : lacksS [] [(⟨#[97]⟩ : ByteArray)] = [⟨#[97]⟩] := by kernel_rfl
  have hraw : rawOf [((⟨#[97]⟩ : ByteArray), c, keptV ⟨#[97]⟩ ⟨#[120]⟩)] ⟨#[97]⟩ = ⟨#[120]⟩ := by simp [rawOf, sget, keptV]
  rw [hkeys, hlk] at htk
  refine stk_call (ACalls.nilDig htk) fun v H4 hv => ?_
  obtain ⟨Y, rfl, k, hsh, hans⟩ := hv
  have hk : k = 1 := by
    obtain ⟨h1, _, h3⟩ := hsh
    simp only [List.length_cons, List.length_nil] at h1 h3
    by_cases e : k < 1
    · have := (h3 e).1; omega
    · omega
  subst hk
  rcases hans with ⟨h0, _⟩ | ⟨_, px, hY, hP⟩
  · simp at h0
  · have hp1 : postRows (postsOf [((⟨#[97]⟩ : ByteArray), c, keptV ⟨#[97]⟩ ⟨#[120]⟩)] (List.take 1 [(⟨#[97]⟩ : ByteArray)])) = [[.v (.string ⟨#[97]⟩), .v (.string ⟨#[120]⟩)]] := by simp [postRows, postsOf, postRow, hraw]
    rw [hp1] at hP
    rcases hY.shape with ⟨_, e⟩ | ⟨gy, rfl, hgy⟩
    · simp at e
    rcases hP.shape with ⟨_, e⟩ | ⟨gx, rfl, hgx⟩
    · simp at e
    unfold postMsg at hgy
    have d0 : decide ((⟨#[120]⟩ : ByteArray) = ⟨#[120]⟩) = true := decide_eq_true rfl
    have d1 : decide ((1 : Int) = 1) = true := rfl
    have d2 : decide ((0 : Int) = 0) = true := rfl
    have d3 : ((0 : Int) < 1) = True := by simp
    have d4 : ((0 : Int) ≤ 0) = True := by simp
    (try simp +decide (implicitDefEqProofs := false) only [go_sem, ↓stk_g, ↓stk_c, ↓reduceIte, hgy, hgx, d0, d1, d2, d3, d4, lay, oneOr, List.take_succ_cons, List.take_zero, List.drop_succ_cons, List.drop_zero, List.nil_append, List.cons_append, Option.getD_some, Nat.reduceAdd, Nat.reduceLeDiff, List.append_nil, and_self, List.all_cons, List.all_nil])
    exact ⟨.inr rfl, _, _, Sub.refl _, .refl _, rfl⟩
end Go.Proofs.YtcbagpippmbmfaaGreatDoor.M
