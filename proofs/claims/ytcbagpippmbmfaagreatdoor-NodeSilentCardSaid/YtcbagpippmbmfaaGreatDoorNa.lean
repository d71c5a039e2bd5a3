/-
  The device and its log: walked.
-/
import Derived.Test.YtcbagpippmbmfaaGreatDoorDg5
namespace Go.Proofs.YtcbagpippmbmfaaGreatDoor.M
open Go.RowKit
attribute [local go_sem] stk_nil stk_skip stk_ops stk_seq stk_block stk_scope stk_exit stk_ret stk_code_exit stk_code_ret stk_ops_exit stk_ops_ret stk_endb stk_endb_exit stk_endb_ret stk_endl stk_endl_exit stk_endl_ret stk_ops_nil stk_q stk_niq niqA flip srcOf stk_bsl side val bside bval uside uval cside cval bndS bndV intA isInt lside lval fside fval faside faval iside ival sxside sxval sizeA slside slval llside llval lenside lenval lenA tupA mmside mmval nkside boolA isBool ev_t ev_c tget put_s put_n lkside lkval menval stk_mk Option.isSome_some isMapA mapA keyA FZ_rfl FZ_any retOf true_and and_true if_true if_false decide_true decide_false Bool.not_true Bool.not_false Nat.zero_add List.map_cons List.map_nil Int.toNat_natCast strRows_len intRows_len List.getD_cons_zero List.getD_cons_succ List.length_cons List.length_nil List.forall_mem_cons List.not_mem_nil false_implies implies_true Int.ofNat_zero Int.natCast_add Int.natCast_one Int.ofNat_one Int.natCast_zero isB isU Bool.false_eq_true beq_self_eq_true Bool.false_beq Bool.true_beq Int.natCast_nonneg undef strRows_take strRows_drop Int.toNat_zero List.drop_zero Bool.and_true oneOr List.all_cons List.all_nil AVal.one Value.oneCell' Bool.true_and List.take_length stk_st' stside stH hp_self hp_hp isnside isnval
set_option linter.unusedVariables false
set_option linter.unusedSimpArgs false
abbrev tDev : Nat := 87
abbrev tLog : Nat := 185
abbrev tU8 : Nat := 5
abbrev ptr (g : Nat) : AVal := .v (.pointer (some ⟨g, 0, none⟩))
theorem put_id {H : AHeap} {b : Nat} {o : AObj} (h : H b = some o) : H.put b o = H := by
  funext x
  by_cases e : x = b
  · subst e; rw [put_self, h]
  · rw [put_ne _ _ e]
/-- What stands, but for some blocks. -/
def Kept (bad : Nat → Prop) (H H' : AHeap) : Prop := ∀ c o, H c = some o → ¬ bad c → H' c = some o
theorem Kept.refl (bad : Nat → Prop) (H : AHeap) : Kept bad H H := fun _ _ h _ => h
theorem Kept.trans {bad : Nat → Prop} {H H' H2 : AHeap} (h : Kept bad H H') (k : Kept bad H' H2) : Kept bad H H2 := fun c o hc hb => k c o (h c o hc hb) hb
theorem Kept.weak {bad bad' : Nat → Prop} {H H' : AHeap} (h : Kept bad H H') (hb : ∀ c, bad c → bad' c) : Kept bad' H H' := fun c o hc hn => h c o hc fun e => hn (hb c e)
theorem Kept.new {bad : Nat → Prop} {H : AHeap} {b : Nat} {o : AObj} (h : H b = none) : Kept bad H (H.put b o) := fun c o' hc _ => by
  rw [put_ne]; exact hc
  intro e; rw [e, h] at hc; cases hc
theorem Kept.put {bad : Nat → Prop} {H : AHeap} {b : Nat} {o : AObj} (h : bad b) : Kept bad H (H.put b o) := fun c o' hc hb => by
  rw [put_ne]; exact hc
  intro e; rw [e] at hb; exact hb h
def devCells (X : AVal) (n : Int) : List AVal := [X, .v (.int .i64 n), .v (.int .i64 (-1)), .v (.bool false)]
/-- A device that does not die. -/
structure DevH (H : AHeap) (d : Nat) (X : AVal) (rows : List (List AVal)) (n : Int) : Prop where
  here : H d = some (.cells tDev (devCells X n))
  row : RowO H tU8 1 X rows
  few : rows.length ≤ 60000
theorem DevH.kept {H H' : AHeap} {d : Nat} {X : AVal} {rows : List (List AVal)} {n : Int} (h : DevH H d X rows n) (hk : ∀ c o, H c = some o → H' c = some o) : DevH H' d X rows n :=
  ⟨hk _ _ h.here, h.row.keep fun b o _ hb => hk _ _ hb, h.few⟩
def c_devNew : AFn := ⟨0, 4, [0],
  .seq (.ops [⟨(some 0), none, .q (.mv (.const (.pointer none)))⟩])
  (.seq (.ops [⟨(some 1), none, .q (.bld [(.int .i64 0), (.int .i64 0)] [(0, 1, (.const (.int .i64 0))), (1, 1, (.const (.int .i64 (-1))))])⟩,
      ⟨(some 2), none, .q (.bld [(.slice none 0 0), (.int .i64 0), (.int .i64 0), (.bool false)] [(1, 2, (.tmp 1))])⟩,
      ⟨(some 3), none, .e (.box 87 (.tmp 2))⟩,
      ⟨(some 0), none, .q (.mv (.tmp 3))⟩])
  (.ret)), []⟩
theorem k_devNew : compF Tryz.prog 11 = some c_devNew := by kernel_rfl
theorem devNew_ok {W : World} {H : AHeap} : ACalls Tryz.prog W 11 [] H fun v H' => ∃ d, H d = none ∧ v = ptr d ∧ H' = H.put d (.cells tDev (devCells (.v (.slice none 0 0)) 0)) := by
  refine fn_run follows k_devNew rfl ?_
  simp only [c_devNew, aretC_nil, List.zipIdx_cons, List.zipIdx_nil, List.map_cons, List.map_nil, Nat.zero_add]
  (try simp +decide (implicitDefEqProofs := false) only [go_sem, ↓stk_g, ↓stk_c, ↓reduceIte, lay, oneOr, List.take_succ_cons, List.take_zero, List.drop_succ_cons, List.drop_zero, List.nil_append, List.cons_append, Option.getD_some, Nat.reduceAdd, Nat.reduceLeDiff, List.append_nil, and_self, List.all_cons, List.all_nil])
  rw [stk_box]
  refine ⟨by rfl, fun b hb => ?_⟩
  (try simp +decide (implicitDefEqProofs := false) only [go_sem, ↓stk_g, ↓stk_c, ↓reduceIte, lay, oneOr, List.take_succ_cons, List.take_zero, List.drop_succ_cons, List.drop_zero, List.nil_append, List.cons_append, Option.getD_some, Nat.reduceAdd, Nat.reduceLeDiff, List.append_nil, and_self, List.all_cons, List.all_nil])
  exact ⟨.inr rfl, _, _, Sub.refl _, .refl _, b, hb, rfl, rfl⟩
def c_devOff : AFn := ⟨1, 7, [2],
  .seq (.ops [⟨(some 2), none, .q (.mv (.const (.bool false)))⟩])
  (.seq (.ops [⟨(some 3), none, .q (.mv (.tmp 0))⟩,
      ⟨(some 4), none, .q (.nck (.tmp 3))⟩,
      ⟨(some 5), none, .q (.fad 3 1 (.tmp 4))⟩,
      ⟨(some 6), none, .q (.ld false 1 (.tmp 5))⟩,
      ⟨(some 2), none, .q (.mv (.tmp 6))⟩])
  (.ret)), []⟩
theorem k_devOff : compF Tryz.prog 117 = some c_devOff := by kernel_rfl
theorem devOff_ok {W : World} {H : AHeap} {d : Nat} {X : AVal} {rows : List (List AVal)} {n : Int} (h : DevH H d X rows n) : ACalls Tryz.prog W 117 [ptr d] H fun v H' => v = .v (.bool false) ∧ H' = H := by
  have hg := h.here
  unfold devCells at hg
  refine fn_run follows k_devOff rfl ?_
  simp only [c_devOff, aretC_nil, List.zipIdx_cons, List.zipIdx_nil, List.map_cons, List.map_nil, Nat.zero_add]
  (try simp +decide (implicitDefEqProofs := false) only [go_sem, ↓stk_g, ↓stk_c, ↓reduceIte, hg, lay, oneOr, List.take_succ_cons, List.take_zero, List.drop_succ_cons, List.drop_zero, List.nil_append, List.cons_append, Option.getD_some, Nat.reduceAdd, Nat.reduceLeDiff, List.append_nil, and_self, List.all_cons, List.all_nil])
  exact ⟨.inr rfl, _, _, Sub.refl _, .refl _, rfl, rfl⟩
def c_devGoes : AFn := ⟨1, 27, [2],
  .seq (.ops [⟨(some 2), none, .q (.mv (.const (.bool false)))⟩])
  (.seq (.ops [⟨(some 3), none, .q (.mv (.tmp 0))⟩,
      ⟨(some 4), none, .q (.mv (.tmp 0))⟩,
      ⟨(some 5), none, .q (.nck (.tmp 4))⟩,
      ⟨(some 6), none, .q (.fad 1 2 (.tmp 5))⟩,
      ⟨(some 7), none, .q (.fad 1 1 (.tmp 6))⟩,
      ⟨(some 8), none, .q (.ld false 1 (.tmp 7))⟩,
      ⟨(some 9), none, .q (.bin .eql .num (.tmp 8) (.const (.int .i64 0)))⟩,
      ⟨(some 10), none, .q (.nck (.tmp 3))⟩,
      ⟨(some 11), none, .q (.fad 3 1 (.tmp 10))⟩,
      ⟨none, none, .e (.st 1 (.tmp 11) (.tmp 9))⟩])
  (.seq (.ops [⟨(some 12), none, .q (.mv (.tmp 0))⟩,
      ⟨(some 13), none, .q (.mv (.tmp 0))⟩,
      ⟨(some 14), none, .q (.nck (.tmp 13))⟩,
      ⟨(some 15), none, .q (.fad 1 2 (.tmp 14))⟩,
      ⟨(some 16), none, .q (.fad 1 1 (.tmp 15))⟩,
      ⟨(some 17), none, .q (.ld false 1 (.tmp 16))⟩,
      ⟨(some 18), none, .q (.bin .sub .num (.tmp 17) (.const (.int .i64 1)))⟩,
      ⟨(some 19), none, .q (.mm true (.tmp 18) (.const (.int .i64 (-1))))⟩,
      ⟨(some 20), none, .q (.nck (.tmp 12))⟩,
      ⟨(some 21), none, .q (.fad 1 2 (.tmp 20))⟩,
      ⟨(some 22), none, .q (.fad 1 1 (.tmp 21))⟩,
      ⟨none, none, .e (.st 1 (.tmp 22) (.tmp 19))⟩])
  (.seq (.ops [⟨(some 23), none, .q (.mv (.tmp 0))⟩,
      ⟨(some 24), none, .q (.nck (.tmp 23))⟩,
      ⟨(some 25), none, .q (.fad 3 1 (.tmp 24))⟩,
      ⟨(some 26), none, .q (.ld false 1 (.tmp 25))⟩,
      ⟨(some 2), none, .q (.mv (.tmp 26))⟩])
  (.ret)))), []⟩
theorem k_devGoes : compF Tryz.prog 176 = some c_devGoes := by kernel_rfl
theorem devGoes_ok {W : World} {H : AHeap} {d : Nat} {X : AVal} {rows : List (List AVal)} {n : Int} (h : DevH H d X rows n) : ACalls Tryz.prog W 176 [ptr d] H fun v H' => v = .v (.bool false) ∧ H' = H := by
  have hg := h.here
  have hid := put_id hg
  unfold devCells at hg hid
  have d1 : decide ((-1 : Int) = 0) = false := by decide
  have w1 : IntKind.i64.wrap (-1 - 1) = -2 := by decide
  have w2 : max (-2 : Int) (-1) = -1 := by decide
  refine fn_run follows k_devGoes rfl ?_
  simp only [c_devGoes, aretC_nil, List.zipIdx_cons, List.zipIdx_nil, List.map_cons, List.map_nil, Nat.zero_add]
  (try simp +decide (implicitDefEqProofs := false) only [go_sem, ↓stk_g, ↓stk_c, ↓reduceIte, hg, hp_self, hp_hp, hid, d1, w1, w2, lay, oneOr, List.take_succ_cons, List.take_zero, List.drop_succ_cons, List.drop_zero, List.nil_append, List.cons_append, Option.getD_some, Nat.reduceAdd, Nat.reduceLeDiff, List.append_nil, and_self, List.all_cons, List.all_nil])
  refine ⟨.inr rfl, _, _, Sub.refl _, .refl _, rfl, rfl⟩
def c_devSync : AFn := ⟨1, 20, [2],
  .seq (.ops [⟨(some 2), none, .q (.mv (.const (.int .i64 0)))⟩])
  (.seq (.seq (.ops [⟨(some 3), none, .q (.mv (.tmp 0))⟩,
      ⟨(some 4), none, .q (.nck (.tmp 3))⟩,
      ⟨(some 5), none, .q (.fad 3 1 (.tmp 4))⟩,
      ⟨(some 6), none, .q (.ld false 1 (.tmp 5))⟩,
      ⟨(some 7), none, .q (.mv (.tmp 6))⟩,
      ⟨(some 8), (some (7, false)), .q (.mv (.tmp 0))⟩,
      ⟨(some 9), (some (7, false)), .e (.call 176 [(.tmp 8)])⟩,
      ⟨(some 10), none, .q (.pick (.tmp 7) (.const (.bool true)) (.tmp 9))⟩])
  (.cond (.tmp 10)
    (.seq (.ops [⟨(some 2), none, .q (.mv (.const (.int .i64 11)))⟩])
    (.ret))
    (.skip)))
  (.seq (.ops [⟨(some 11), none, .q (.mv (.tmp 0))⟩,
      ⟨(some 12), none, .q (.mv (.tmp 0))⟩,
      ⟨(some 13), none, .q (.nck (.tmp 12))⟩,
      ⟨(some 14), none, .q (.fad 0 1 (.tmp 13))⟩,
      ⟨(some 15), none, .q (.ld false 1 (.tmp 14))⟩,
      ⟨(some 16), none, .q (.len false (.tmp 15))⟩,
      ⟨(some 17), none, .q (.nck (.tmp 11))⟩,
      ⟨(some 18), none, .q (.fad 1 2 (.tmp 17))⟩,
      ⟨(some 19), none, .q (.fad 0 1 (.tmp 18))⟩,
      ⟨none, none, .e (.st 1 (.tmp 19) (.tmp 16))⟩])
  (.seq (.ops [⟨(some 2), none, .q (.mv (.const (.int .i64 0)))⟩])
  (.ret)))), []⟩
theorem k_devSync : compF Tryz.prog 128 = some c_devSync := by kernel_rfl
theorem devSync_ok {W : World} {H : AHeap} {d : Nat} {X : AVal} {rows : List (List AVal)} {n : Int} (h : DevH H d X rows n) : ACalls Tryz.prog W 128 [ptr d] H fun v H' => v = .v (.int .i64 0) ∧ H' = H.put d (.cells tDev (devCells X rows.length)) := by
  have hg := h.here
  unfold devCells at hg
  have hgo := devGoes_ok (W := W) h
  refine fn_run follows k_devSync rfl ?_
  simp only [c_devSync, aretC_nil, List.zipIdx_cons, List.zipIdx_nil, List.map_cons, List.map_nil, Nat.zero_add]
  have hr := h.row
  (try simp +decide (implicitDefEqProofs := false) only [go_sem, ↓stk_g, ↓stk_c, ↓reduceIte, hg, hp_self, hp_hp, lay, oneOr, List.take_succ_cons, List.take_zero, List.drop_succ_cons, List.drop_zero, List.nil_append, List.cons_append, Option.getD_some, Nat.reduceAdd, Nat.reduceLeDiff, List.append_nil, and_self, List.all_cons, List.all_nil])
  refine stk_call hgo fun v H' hv => ?_
  obtain ⟨rfl, rfl⟩ := hv
  cases hr with
  | nil =>
    (try simp +decide (implicitDefEqProofs := false) only [go_sem, ↓stk_g, ↓stk_c, ↓reduceIte, hg, hp_self, hp_hp, lay, oneOr, List.take_succ_cons, List.take_zero, List.drop_succ_cons, List.drop_zero, List.nil_append, List.cons_append, Option.getD_some, Nat.reduceAdd, Nat.reduceLeDiff, List.append_nil, and_self, List.all_cons, List.all_nil])
    refine ⟨.inr rfl, _, _, Sub.refl _, .refl _, rfl, rfl⟩
  | bs h hn =>
    (try simp +decide (implicitDefEqProofs := false) only [go_sem, ↓stk_g, ↓stk_c, ↓reduceIte, hg, hp_self, hp_hp, lay, oneOr, List.take_succ_cons, List.take_zero, List.drop_succ_cons, List.drop_zero, List.nil_append, List.cons_append, Option.getD_some, Nat.reduceAdd, Nat.reduceLeDiff, List.append_nil, and_self, List.all_cons, List.all_nil])
    refine ⟨.inr rfl, _, _, Sub.refl _, .refl _, rfl, by rw [← hn]; rfl⟩
theorem DevH.len {H : AHeap} {d : Nat} {X : AVal} {rows : List (List AVal)} {n : Int} (h : DevH H d X rows n) : X = .v (.slice none 0 0) ∧ rows = [] ∨ ∃ g, X = .bs g 1 rows.length ∧ H g = some (.buf tU8 1 rows) ∧ g ≠ d := by
  have hr := h.row
  have hg := h.here
  cases hr with
  | nil => exact .inl ⟨rfl, rfl⟩
  | bs hb hn => exact .inr ⟨_, by rw [hn], hb, fun e => by subst e; rw [hg] at hb; cases hb⟩
theorem DevH.src {H : AHeap} {d : Nat} {X : AVal} {rows : List (List AVal)} {n : Int} (h : DevH H d X rows n) : srcOf H 1 X = some rows := by
  rcases h.len with ⟨rfl, rfl⟩ | ⟨g, rfl, hb, _⟩
  · rfl
  · simp [srcOf, hb]
theorem RowO.shape {H : AHeap} {E sz : Nat} {x : AVal} {rows : List (List AVal)} (h : RowO H E sz x rows) : x = .v (.slice none 0 0) ∧ rows = [] ∨ ∃ g, x = .bs g sz rows.length ∧ H g = some (.buf E sz rows) := by
  cases h with
  | nil => exact .inl ⟨rfl, rfl⟩
  | bs hb hn => exact .inr ⟨_, by rw [hn], hb⟩
def c_devApp : AFn := ⟨2, 32, [4],
  .seq (.ops [⟨(some 4), none, .q (.mv (.const (.int .i64 0)))⟩])
  (.seq (.block 0 (.seq (.ops [⟨(some 6), none, .q (.mv (.tmp 0))⟩,
        ⟨(some 7), none, .q (.nck (.tmp 6))⟩,
        ⟨(some 8), none, .q (.fad 3 1 (.tmp 7))⟩,
        ⟨(some 9), none, .q (.ld false 1 (.tmp 8))⟩,
        ⟨(some 5), none, .q (.mv (.tmp 9))⟩])
    (.cond (.tmp 5)
      (.seq (.ops [⟨(some 4), none, .q (.mv (.const (.int .i64 11)))⟩])
      (.ret))
      (.seq (.ops [⟨(some 11), none, .q (.mv (.tmp 0))⟩,
          ⟨(some 12), none, .q (.nck (.tmp 11))⟩,
          ⟨(some 13), none, .q (.fad 0 1 (.tmp 12))⟩,
          ⟨(some 14), none, .q (.ld false 1 (.tmp 13))⟩,
          ⟨(some 15), none, .q (.len false (.tmp 14))⟩,
          ⟨(some 16), none, .q (.mv (.tmp 1))⟩,
          ⟨(some 17), none, .q (.len false (.tmp 16))⟩,
          ⟨(some 18), none, .q (.bin .add .num (.tmp 15) (.tmp 17))⟩,
          ⟨(some 19), none, .q (.bin .gtr .num (.tmp 18) (.const (.int .i64 60000)))⟩,
          ⟨(some 10), none, .q (.mv (.tmp 19))⟩])
      (.cond (.tmp 10)
        (.seq (.ops [⟨(some 4), none, .q (.mv (.const (.int .i64 10)))⟩])
        (.ret))
        (.seq (.ops [⟨(some 21), none, .q (.mv (.tmp 0))⟩,
            ⟨(some 22), none, .e (.call 176 [(.tmp 21)])⟩,
            ⟨(some 20), none, .q (.mv (.tmp 22))⟩])
        (.cond (.tmp 20)
          (.seq (.ops [⟨(some 4), none, .q (.mv (.const (.int .i64 11)))⟩])
          (.ret))
          (.skip))))))))
  (.seq (.ops [⟨(some 23), none, .q (.mv (.tmp 0))⟩,
      ⟨(some 24), none, .q (.mv (.tmp 0))⟩,
      ⟨(some 25), none, .q (.nck (.tmp 24))⟩,
      ⟨(some 26), none, .q (.fad 0 1 (.tmp 25))⟩,
      ⟨(some 27), none, .q (.ld false 1 (.tmp 26))⟩,
      ⟨(some 28), none, .q (.mv (.tmp 1))⟩,
      ⟨(some 29), none, .e (.app 5 1 1 false (.tmp 27) (.tmp 28))⟩,
      ⟨(some 30), none, .q (.nck (.tmp 23))⟩,
      ⟨(some 31), none, .q (.fad 0 1 (.tmp 30))⟩,
      ⟨none, none, .e (.st 1 (.tmp 31) (.tmp 29))⟩])
  (.seq (.ops [⟨(some 4), none, .q (.mv (.const (.int .i64 0)))⟩])
  (.ret)))), []⟩
theorem k_devApp : compF Tryz.prog 127 = some c_devApp := by kernel_rfl
set_option maxHeartbeats 1000000 in
theorem devApp_ok {W : World} {H : AHeap} {d : Nat} {X : AVal} {rows : List (List AVal)} {n : Int} (h : DevH H d X rows n) {g : Nat} {new : List (List AVal)} (hy : H g = some (.buf tU8 1 new)) (hnl : new.length ≤ 100000) :
    ACalls Tryz.prog W 127 [ptr d, .bs g 1 new.length] H fun v H' => ∃ e X' rows', v = .v (.int .i64 e) ∧ DevH H' d X' rows' n ∧ Kept (fun c => c = d ∨ blkOf X = some c) H H' ∧ (rows.length + new.length ≤ 60000 → e = 0 ∧ rows'.length = rows.length + new.length) := by
  have hg := h.here
  unfold devCells at hg
  have hgo := devGoes_ok (W := W) h
  have hsrc : srcOf H 1 (.bs g 1 new.length) = some new := by simp [srcOf, hy]
  have hfew := h.few
  refine fn_run follows k_devApp rfl ?_
  simp only [c_devApp, aretC_nil, List.zipIdx_cons, List.zipIdx_nil, List.map_cons, List.map_nil, Nat.zero_add]
  have hw : IntKind.i64.wrap ((rows.length : Int) + (new.length : Int)) = (rows.length : Int) + (new.length : Int) := by rw [IntKind.wrap_i64]; omega
  have hw0 : IntKind.i64.wrap (new.length : Int) = (new.length : Int) := by rw [IntKind.wrap_i64]; omega
  by_cases hbig : 60000 < rows.length + new.length
  · have g1 : (60000 : Int) < (rows.length : Int) + (new.length : Int) := by omega
    rcases h.len with ⟨rfl, rfl⟩ | ⟨gx, rfl, hbx, hgx⟩
    · have g1 : (60000 : Int) < (new.length : Int) := by simp at g1; exact g1
      (try simp +decide (implicitDefEqProofs := false) only [go_sem, ↓stk_g, ↓stk_c, ↓reduceIte, hg, g1, hw0, Int.zero_add, lay, oneOr, List.take_succ_cons, List.take_zero, List.drop_succ_cons, List.drop_zero, List.nil_append, List.cons_append, Option.getD_some, Nat.reduceAdd, Nat.reduceLeDiff, List.append_nil, and_self, List.all_cons, List.all_nil])
      exact ⟨.inr rfl, _, _, Sub.refl _, .refl _, _, _, _, rfl, h, .refl _ _, fun e => by omega⟩
    · (try simp +decide (implicitDefEqProofs := false) only [go_sem, ↓stk_g, ↓stk_c, ↓reduceIte, hg, g1, hw, lay, oneOr, List.take_succ_cons, List.take_zero, List.drop_succ_cons, List.drop_zero, List.nil_append, List.cons_append, Option.getD_some, Nat.reduceAdd, Nat.reduceLeDiff, List.append_nil, and_self, List.all_cons, List.all_nil])
      exact ⟨.inr rfl, _, _, Sub.refl _, .refl _, _, _, _, rfl, h, .refl _ _, fun e => by omega⟩
  · have g1 : ¬ (60000 : Int) < (rows.length : Int) + (new.length : Int) := by omega
    rcases h.len with ⟨rfl, rfl⟩ | ⟨gx, rfl, hbx, hgx⟩
    · have g1 : ¬ (60000 : Int) < (new.length : Int) := by simp at g1; omega
      (try simp +decide (implicitDefEqProofs := false) only [go_sem, ↓stk_g, ↓stk_c, ↓reduceIte, hg, g1, hw0, Int.zero_add, lay, oneOr, List.take_succ_cons, List.take_zero, List.drop_succ_cons, List.drop_zero, List.nil_append, List.cons_append, Option.getD_some, Nat.reduceAdd, Nat.reduceLeDiff, List.append_nil, and_self, List.all_cons, List.all_nil])
      refine stk_call hgo fun v H' hv => ?_
      obtain ⟨rfl, rfl⟩ := hv
      (try simp +decide (implicitDefEqProofs := false) only [go_sem, ↓stk_g, ↓stk_c, ↓reduceIte, hg, lay, oneOr, List.take_succ_cons, List.take_zero, List.drop_succ_cons, List.drop_zero, List.nil_append, List.cons_append, Option.getD_some, Nat.reduceAdd, Nat.reduceLeDiff, List.append_nil, and_self, List.all_cons, List.all_nil])
      refine stk_appO (rows := []) .nil hsrc (by simp; omega) fun X1 H2 hr1 hrest => ?_
      have hg2 : H2 d = _ := hrest _ _ hg (fun e => by cases e)
      rcases hr1.shape with ⟨rfl, _⟩ | ⟨g1, rfl, _⟩
      · (try simp +decide (implicitDefEqProofs := false) only [go_sem, ↓stk_g, ↓stk_c, ↓reduceIte, hg2, hp_self, hp_hp, lay, oneOr, List.take_succ_cons, List.take_zero, List.drop_succ_cons, List.drop_zero, List.nil_append, List.cons_append, Option.getD_some, Nat.reduceAdd, Nat.reduceLeDiff, List.append_nil, and_self, List.all_cons, List.all_nil])
        refine ⟨.inr rfl, _, _, Sub.refl _, .refl _, 0, _, _, rfl, ⟨hp_self _ _ _, hr1.put (hr1.off hg2 (fun _ _ _ e => by cases e)), by simp; omega⟩, (fun c o hc hb => ?_), fun _ => ⟨rfl, by simp⟩⟩
        have hcd : c ≠ d := fun e => hb (.inl e)
        exact (hp_ne _ _ hcd).trans (hrest c o hc (fun e => by cases e))
      · (try simp +decide (implicitDefEqProofs := false) only [go_sem, ↓stk_g, ↓stk_c, ↓reduceIte, hg2, hp_self, hp_hp, lay, oneOr, List.take_succ_cons, List.take_zero, List.drop_succ_cons, List.drop_zero, List.nil_append, List.cons_append, Option.getD_some, Nat.reduceAdd, Nat.reduceLeDiff, List.append_nil, and_self, List.all_cons, List.all_nil])
        refine ⟨.inr rfl, _, _, Sub.refl _, .refl _, 0, _, _, rfl, ⟨hp_self _ _ _, hr1.put (hr1.off hg2 (fun _ _ _ e => by cases e)), by simp; omega⟩, (fun c o hc hb => ?_), fun _ => ⟨rfl, by simp⟩⟩
        have hcd : c ≠ d := fun e => hb (.inl e)
        exact (hp_ne _ _ hcd).trans (hrest c o hc (fun e => by cases e))
    · (try simp +decide (implicitDefEqProofs := false) only [go_sem, ↓stk_g, ↓stk_c, ↓reduceIte, hg, g1, hw, lay, oneOr, List.take_succ_cons, List.take_zero, List.drop_succ_cons, List.drop_zero, List.nil_append, List.cons_append, Option.getD_some, Nat.reduceAdd, Nat.reduceLeDiff, List.append_nil, and_self, List.all_cons, List.all_nil])
      refine stk_call hgo fun v H' hv => ?_
      obtain ⟨rfl, rfl⟩ := hv
      (try simp +decide (implicitDefEqProofs := false) only [go_sem, ↓stk_g, ↓stk_c, ↓reduceIte, hg, lay, oneOr, List.take_succ_cons, List.take_zero, List.drop_succ_cons, List.drop_zero, List.nil_append, List.cons_append, Option.getD_some, Nat.reduceAdd, Nat.reduceLeDiff, List.append_nil, and_self, List.all_cons, List.all_nil])
      refine stk_appO (rows := rows) h.row hsrc (by omega) fun X1 H2 hr1 hrest => ?_
      have hg2 : H2 d = _ := hrest _ _ hg (h.row.off h.here (fun _ _ _ e => by cases e))
      rcases hr1.shape with ⟨rfl, _⟩ | ⟨g1, rfl, _⟩
      · (try simp +decide (implicitDefEqProofs := false) only [go_sem, ↓stk_g, ↓stk_c, ↓reduceIte, hg2, hp_self, hp_hp, lay, oneOr, List.take_succ_cons, List.take_zero, List.drop_succ_cons, List.drop_zero, List.nil_append, List.cons_append, Option.getD_some, Nat.reduceAdd, Nat.reduceLeDiff, List.append_nil, and_self, List.all_cons, List.all_nil])
        refine ⟨.inr rfl, _, _, Sub.refl _, .refl _, 0, _, _, rfl, ⟨hp_self _ _ _, hr1.put (hr1.off hg2 (fun _ _ _ e => by cases e)), by simp; omega⟩, (fun c o hc hb => ?_), fun _ => ⟨rfl, by simp⟩⟩
        have hcd : c ≠ d := fun e => hb (.inl e)
        exact (hp_ne _ _ hcd).trans (hrest c o hc fun e => hb (.inr e))
      · (try simp +decide (implicitDefEqProofs := false) only [go_sem, ↓stk_g, ↓stk_c, ↓reduceIte, hg2, hp_self, hp_hp, lay, oneOr, List.take_succ_cons, List.take_zero, List.drop_succ_cons, List.drop_zero, List.nil_append, List.cons_append, Option.getD_some, Nat.reduceAdd, Nat.reduceLeDiff, List.append_nil, and_self, List.all_cons, List.all_nil])
        refine ⟨.inr rfl, _, _, Sub.refl _, .refl _, 0, _, _, rfl, ⟨hp_self _ _ _, hr1.put (hr1.off hg2 (fun _ _ _ e => by cases e)), by simp; omega⟩, (fun c o hc hb => ?_), fun _ => ⟨rfl, by simp⟩⟩
        have hcd : c ≠ d := fun e => hb (.inl e)
        exact (hp_ne _ _ hcd).trans (hrest c o hc fun e => hb (.inr e))
def c_devBytes : AFn := ⟨1, 17, [2],
  .seq (.ops [⟨(some 2), none, .q (.mv (.const (.slice none 0 0)))⟩])
  (.seq (.ops [⟨(some 4), none, .q (.mv (.tmp 0))⟩,
      ⟨(some 5), none, .q (.nck (.tmp 4))⟩,
      ⟨(some 6), none, .q (.fad 0 1 (.tmp 5))⟩,
      ⟨(some 7), none, .q (.ld false 1 (.tmp 6))⟩,
      ⟨(some 8), none, .q (.len false (.tmp 7))⟩,
      ⟨(some 9), none, .e (.mks 5 1 (.int .u8 0) (.tmp 8))⟩,
      ⟨(some 3), none, .q (.mv (.tmp 9))⟩])
  (.seq (.ops [⟨(some 10), none, .q (.mv (.tmp 3))⟩,
      ⟨(some 11), none, .q (.mv (.tmp 0))⟩,
      ⟨(some 12), none, .q (.nck (.tmp 11))⟩,
      ⟨(some 13), none, .q (.fad 0 1 (.tmp 12))⟩,
      ⟨(some 14), none, .q (.ld false 1 (.tmp 13))⟩,
      ⟨(some 15), none, .e (.cpy 1 (.tmp 10) (.tmp 14))⟩])
  (.seq (.ops [⟨(some 16), none, .q (.mv (.tmp 3))⟩,
      ⟨(some 2), none, .q (.mv (.tmp 16))⟩])
  (.ret)))), []⟩
theorem k_devBytes : compF Tryz.prog 38 = some c_devBytes := by kernel_rfl
theorem devBytes_ok {W : World} {H : AHeap} {d : Nat} {X : AVal} {rows : List (List AVal)} {n : Int} (h : DevH H d X rows n) : ACalls Tryz.prog W 38 [ptr d] H fun v H' => ∃ g, H g = none ∧ v = .bs g 1 rows.length ∧ H' = H.put g (.buf tU8 1 rows) := by
  have hg := h.here
  unfold devCells at hg
  have hfew := h.few
  have hsrc := h.src
  have key : ∀ b, H b = none → (∀ c o, H c = some o → (H.put b o) c = H c ∧ c ≠ b) := fun b hb c o hc => ⟨hp_ne _ _ (fun e => by rw [e, hb] at hc; cases hc), fun e => by rw [e, hb] at hc; cases hc⟩
  refine fn_run follows k_devBytes rfl ?_
  simp only [c_devBytes, aretC_nil, List.zipIdx_cons, List.zipIdx_nil, List.map_cons, List.map_nil, Nat.zero_add]
  rcases h.len with ⟨rfl, rfl⟩ | ⟨gx, rfl, hbx, hgx⟩
  · (try simp +decide (implicitDefEqProofs := false) only [go_sem, ↓stk_g, ↓stk_c, ↓reduceIte, hg, lay, oneOr, List.take_succ_cons, List.take_zero, List.drop_succ_cons, List.drop_zero, List.nil_append, List.cons_append, Option.getD_some, Nat.reduceAdd, Nat.reduceLeDiff, List.append_nil, and_self, List.all_cons, List.all_nil])
    refine stk_mks (n := 0) rfl (by omega) (by omega) fun b hb => ?_
    have hdb : d ≠ b := (key b hb d _ hg).2
    have hg2 : ∀ o, (H.put b o) d = _ := fun o => (hp_ne H o hdb).trans hg
    (try simp +decide (implicitDefEqProofs := false) only [go_sem, ↓stk_g, ↓stk_c, ↓reduceIte, hg2, lay, oneOr, List.take_succ_cons, List.take_zero, List.drop_succ_cons, List.drop_zero, List.nil_append, List.cons_append, Option.getD_some, Nat.reduceAdd, Nat.reduceLeDiff, List.append_nil, and_self, List.all_cons, List.all_nil])
    refine stk_cpy (E := tU8) (rows := List.replicate 0 [.v (.int .u8 0)]) (new := []) rfl (put_self _ _ _) rfl rfl rfl ?_
    (try simp +decide (implicitDefEqProofs := false) only [go_sem, ↓stk_g, ↓stk_c, ↓reduceIte, hp_hp, lay, oneOr, List.take_succ_cons, List.take_zero, List.drop_succ_cons, List.drop_zero, List.nil_append, List.cons_append, Option.getD_some, Nat.reduceAdd, Nat.reduceLeDiff, List.append_nil, and_self, List.all_cons, List.all_nil])
    exact ⟨.inr rfl, _, _, Sub.refl _, .refl _, b, hb, rfl, rfl⟩
  · (try simp +decide (implicitDefEqProofs := false) only [go_sem, ↓stk_g, ↓stk_c, ↓reduceIte, hg, lay, oneOr, List.take_succ_cons, List.take_zero, List.drop_succ_cons, List.drop_zero, List.nil_append, List.cons_append, Option.getD_some, Nat.reduceAdd, Nat.reduceLeDiff, List.append_nil, and_self, List.all_cons, List.all_nil])
    refine stk_mks (n := rows.length) rfl (by omega) (by omega) fun b hb => ?_
    have hdb : d ≠ b := (key b hb d _ hg).2
    have hxb : gx ≠ b := (key b hb gx _ hbx).2
    have hg2 : ∀ o, (H.put b o) d = _ := fun o => (hp_ne H o hdb).trans hg
    (try simp +decide (implicitDefEqProofs := false) only [go_sem, ↓stk_g, ↓stk_c, ↓reduceIte, hg2, lay, oneOr, List.take_succ_cons, List.take_zero, List.drop_succ_cons, List.drop_zero, List.nil_append, List.cons_append, Option.getD_some, Nat.reduceAdd, Nat.reduceLeDiff, List.append_nil, and_self, List.all_cons, List.all_nil])
    refine stk_cpy (E := tU8) (rows := List.replicate rows.length [.v (.int .u8 0)]) (new := rows) rfl (put_self _ _ _) (by simp [srcOf, ev, tget, AState.put, put_ne _ _ hxb, hbx]) (by simp) rfl ?_
    (try simp +decide (implicitDefEqProofs := false) only [go_sem, ↓stk_g, ↓stk_c, ↓reduceIte, hp_hp, lay, oneOr, List.take_succ_cons, List.take_zero, List.drop_succ_cons, List.drop_zero, List.nil_append, List.cons_append, Option.getD_some, Nat.reduceAdd, Nat.reduceLeDiff, List.append_nil, and_self, List.all_cons, List.all_nil])
    exact ⟨.inr rfl, _, _, Sub.refl _, .refl _, b, hb, rfl, rfl⟩
def c_flNext : AFn := ⟨2, 52, [52],
  .seq (.ops [⟨(some 4), none, .e (.alloc 181 [(.int .i64 0), (.int .i64 0)])⟩])
  (.seq (.seq (.ops [⟨(some 7), none, .q (.mv (.tmp 0))⟩,
      ⟨(some 8), none, .q (.len false (.tmp 7))⟩,
      ⟨(some 9), none, .q (.mv (.tmp 1))⟩,
      ⟨(some 10), none, .q (.bin .sub .num (.tmp 8) (.tmp 9))⟩,
      ⟨(some 11), none, .q (.bin .lss .num (.tmp 10) (.const (.int .i64 3)))⟩])
  (.cond (.tmp 11)
    (.seq (.ops [⟨(some 12), none, .q (.bld [(.int .i64 0), (.int .i64 0)] [])⟩,
        ⟨none, none, .e (.st 2 (.tmp 4) (.tmp 12))⟩])
    (.ret))
    (.skip)))
  (.seq (.ops [⟨(some 13), none, .q (.mv (.tmp 0))⟩,
      ⟨(some 14), none, .q (.mv (.tmp 1))⟩,
      ⟨(some 15), none, .q (.ixa 1 (.tmp 13) (.tmp 14))⟩,
      ⟨(some 16), none, .q (.ld false 1 (.tmp 15))⟩,
      ⟨(some 17), none, .q (.cv (.int .i64) (.tmp 16))⟩,
      ⟨(some 18), none, .q (.bin .shl .num (.tmp 17) (.const (.int .u64 16)))⟩,
      ⟨(some 19), none, .q (.mv (.tmp 0))⟩,
      ⟨(some 20), none, .q (.mv (.tmp 1))⟩,
      ⟨(some 21), none, .q (.bin .add .num (.tmp 20) (.const (.int .i64 1)))⟩,
      ⟨(some 22), none, .q (.ixa 1 (.tmp 19) (.tmp 21))⟩,
      ⟨(some 23), none, .q (.ld false 1 (.tmp 22))⟩,
      ⟨(some 24), none, .q (.cv (.int .i64) (.tmp 23))⟩,
      ⟨(some 25), none, .q (.bin .shl .num (.tmp 24) (.const (.int .u64 8)))⟩,
      ⟨(some 26), none, .q (.bin .or .num (.tmp 18) (.tmp 25))⟩,
      ⟨(some 27), none, .q (.mv (.tmp 0))⟩,
      ⟨(some 28), none, .q (.mv (.tmp 1))⟩,
      ⟨(some 29), none, .q (.bin .add .num (.tmp 28) (.const (.int .i64 2)))⟩,
      ⟨(some 30), none, .q (.ixa 1 (.tmp 27) (.tmp 29))⟩,
      ⟨(some 31), none, .q (.ld false 1 (.tmp 30))⟩,
      ⟨(some 32), none, .q (.cv (.int .i64) (.tmp 31))⟩,
      ⟨(some 33), none, .q (.bin .or .num (.tmp 26) (.tmp 32))⟩,
      ⟨(some 5), none, .q (.mv (.tmp 33))⟩])
  (.seq (.ops [⟨(some 34), none, .q (.mv (.tmp 1))⟩,
      ⟨(some 35), none, .q (.bin .add .num (.tmp 34) (.const (.int .i64 3)))⟩,
      ⟨(some 6), none, .q (.mv (.tmp 35))⟩])
  (.seq (.seq (.ops [⟨(some 36), none, .q (.mv (.tmp 5))⟩,
      ⟨(some 37), none, .q (.bin .gtr .num (.tmp 36) (.const (.int .i64 20000)))⟩,
      ⟨(some 38), none, .q (.mv (.tmp 37))⟩,
      ⟨(some 39), (some (38, false)), .q (.mv (.tmp 0))⟩,
      ⟨(some 40), (some (38, false)), .q (.len false (.tmp 39))⟩,
      ⟨(some 41), (some (38, false)), .q (.mv (.tmp 6))⟩,
      ⟨(some 42), (some (38, false)), .q (.bin .sub .num (.tmp 40) (.tmp 41))⟩,
      ⟨(some 43), (some (38, false)), .q (.mv (.tmp 5))⟩,
      ⟨(some 44), (some (38, false)), .q (.bin .lss .num (.tmp 42) (.tmp 43))⟩,
      ⟨(some 45), none, .q (.pick (.tmp 38) (.const (.bool true)) (.tmp 44))⟩])
  (.cond (.tmp 45)
    (.seq (.ops [⟨(some 46), none, .q (.bld [(.int .i64 0), (.int .i64 0)] [])⟩,
        ⟨none, none, .e (.st 2 (.tmp 4) (.tmp 46))⟩])
    (.ret))
    (.skip)))
  (.seq (.ops [⟨(some 47), none, .q (.mv (.tmp 6))⟩,
      ⟨(some 48), none, .q (.mv (.tmp 6))⟩,
      ⟨(some 49), none, .q (.mv (.tmp 5))⟩,
      ⟨(some 50), none, .q (.bin .add .num (.tmp 48) (.tmp 49))⟩,
      ⟨(some 51), none, .q (.bld [(.int .i64 0), (.int .i64 0)] [(0, 1, (.tmp 47)), (1, 1, (.tmp 50))])⟩,
      ⟨none, none, .e (.st 2 (.tmp 4) (.tmp 51))⟩])
  (.ret)))))), [(52, (4, (true, 2)))]⟩
theorem k_flNext : compF Tryz.prog 118 = some c_flNext := by kernel_rfl
theorem flNext_ok {W : World} {H : AHeap} {g : Nat} : ACalls Tryz.prog W 118 [.bs g 1 0, .v (.int .i64 0)] H fun v H' => v = .agg [.v (.int .i64 0), .v (.int .i64 0)] ∧ Kept (fun _ => False) H H' := by
  refine fn_run follows k_flNext rfl ?_
  simp only [c_flNext, aretC_nil, List.zipIdx_cons, List.zipIdx_nil, List.map_cons, List.map_nil, Nat.zero_add]
  have w1 : IntKind.i64.wrap (0 - 0) = 0 := by decide
  (try simp +decide (implicitDefEqProofs := false) only [go_sem, ↓stk_g, ↓stk_c, ↓reduceIte, lay, oneOr, List.take_succ_cons, List.take_zero, List.drop_succ_cons, List.drop_zero, List.nil_append, List.cons_append, Option.getD_some, Nat.reduceAdd, Nat.reduceLeDiff, List.append_nil, and_self, List.all_cons, List.all_nil])
  rw [stk_alloc]
  intro b hb
  (try simp +decide (implicitDefEqProofs := false) only [go_sem, ↓stk_g, ↓stk_c, ↓reduceIte, w1, hp_self, hp_hp, lay, oneOr, List.take_succ_cons, List.take_zero, List.drop_succ_cons, List.drop_zero, List.nil_append, List.cons_append, Option.getD_some, Nat.reduceAdd, Nat.reduceLeDiff, List.append_nil, and_self, List.all_cons, List.all_nil])
  refine aretC_one (by (try simp +decide (implicitDefEqProofs := false) only [go_sem, ↓stk_g, ↓stk_c, ↓reduceIte, hp_self, lay, oneOr, List.take_succ_cons, List.take_zero, List.drop_succ_cons, List.drop_zero, List.nil_append, List.cons_append, Option.getD_some, Nat.reduceAdd, Nat.reduceLeDiff, List.append_nil, and_self, List.all_cons, List.all_nil])) ?_
  (try simp +decide (implicitDefEqProofs := false) only [go_sem, ↓stk_g, ↓stk_c, ↓reduceIte, hp_self, lay, oneOr, List.take_succ_cons, List.take_zero, List.drop_succ_cons, List.drop_zero, List.nil_append, List.cons_append, Option.getD_some, Nat.reduceAdd, Nat.reduceLeDiff, List.append_nil, and_self, List.all_cons, List.all_nil])
  exact ⟨.inr rfl, _, _, Sub.refl _, .refl _, rfl, Kept.new hb⟩
def c_flOpen : AFn := ⟨1, 46, [2, 3, 4],
  .seq (.ops [⟨(some 2), none, .q (.mv (.const (.pointer none)))⟩,
      ⟨(some 3), none, .q (.mv (.const (.slice none 0 0)))⟩,
      ⟨(some 4), none, .q (.mv (.const (.int .i64 0)))⟩])
  (.scope (.seq (.seq (.ops [⟨(some 10), none, .q (.mv (.tmp 0))⟩,
        ⟨(some 11), none, .e (.call 117 [(.tmp 10)])⟩])
    (.cond (.tmp 11)
      (.seq (.ops [⟨(some 2), none, .q (.mv (.const (.pointer none)))⟩,
          ⟨(some 3), none, .q (.mv (.const (.slice none 0 0)))⟩,
          ⟨(some 4), none, .q (.mv (.const (.int .i64 11)))⟩])
      (.ret))
      (.skip)))
    (.seq (.ops [⟨(some 12), none, .q (.mv (.tmp 0))⟩,
        ⟨(some 13), none, .e (.call 38 [(.tmp 12)])⟩,
        ⟨(some 5), none, .q (.mv (.tmp 13))⟩])
    (.seq (.ops [⟨(some 6), none, .q (.mv (.const (.slice none 0 0)))⟩])
    (.seq (.ops [⟨(some 7), none, .q (.mv (.const (.int .i64 0)))⟩])
    (.seq (.skip)
    (.seq (.block 0 (.loop (.block 1 (.seq (.ops [⟨(some 14), none, .q (.mv (.tmp 5))⟩,
              ⟨(some 15), none, .q (.mv (.tmp 7))⟩,
              ⟨(some 16), none, .e (.call 118 [(.tmp 14), (.tmp 15)])⟩,
              ⟨(some 8), none, .e (.alloc 181 [(.int .i64 0), (.int .i64 0)])⟩,
              ⟨none, none, .e (.st 2 (.tmp 8) (.tmp 16))⟩])
          (.seq (.seq (.ops [⟨(some 17), none, .q (.ld true 2 (.tmp 8))⟩,
              ⟨(some 18), none, .q (.bld [(.int .i64 0), (.int .i64 0)] [])⟩,
              ⟨(some 19), none, .q (.bin .eql (.struct [0, 0]) (.tmp 17) (.tmp 18))⟩])
          (.cond (.tmp 19)
            (.exit 0)
            (.skip)))
          (.seq (.ops [⟨(some 20), none, .q (.mv (.tmp 6))⟩,
              ⟨(some 21), none, .q (.mv (.tmp 5))⟩,
              ⟨(some 22), none, .q (.fad 0 1 (.tmp 8))⟩,
              ⟨(some 23), none, .q (.ld false 1 (.tmp 22))⟩,
              ⟨(some 24), none, .q (.fad 1 1 (.tmp 8))⟩,
              ⟨(some 25), none, .q (.ld false 1 (.tmp 24))⟩,
              ⟨(some 26), none, .q (.lsl 1 (.tmp 21) (some (.tmp 23)) (some (.tmp 25)) none)⟩,
              ⟨(some 27), none, .e (.b2s (.tmp 26))⟩,
              ⟨(some 28), none, .e (.bsl 9 1 [(.tmp 27)])⟩,
              ⟨(some 29), none, .e (.app 9 1 16 false (.tmp 20) (.tmp 28))⟩,
              ⟨(some 6), none, .q (.mv (.tmp 29))⟩])
          (.ops [⟨(some 30), none, .q (.fad 1 1 (.tmp 8))⟩,
              ⟨(some 31), none, .q (.ld false 1 (.tmp 30))⟩,
              ⟨(some 7), none, .q (.mv (.tmp 31))⟩])))))))
    (.seq (.seq (.ops [⟨(some 32), none, .q (.mv (.tmp 7))⟩,
        ⟨(some 33), none, .q (.mv (.tmp 5))⟩,
        ⟨(some 34), none, .q (.len false (.tmp 33))⟩,
        ⟨(some 35), none, .q (.bin .lss .num (.tmp 32) (.tmp 34))⟩])
    (.cond (.tmp 35)
      (.seq (.ops [⟨(some 36), none, .q (.mv (.tmp 0))⟩,
          ⟨(some 37), none, .q (.mv (.tmp 7))⟩,
          ⟨(some 38), none, .e (.call 119 [(.tmp 36), (.tmp 37)])⟩,
          ⟨(some 9), none, .q (.mv (.tmp 38))⟩])
      (.seq (.ops [⟨(some 39), none, .q (.mv (.tmp 9))⟩,
          ⟨(some 40), none, .q (.bin .neq .num (.tmp 39) (.const (.int .i64 0)))⟩])
      (.cond (.tmp 40)
        (.seq (.ops [⟨(some 41), none, .q (.mv (.tmp 9))⟩,
            ⟨(some 2), none, .q (.mv (.const (.pointer none)))⟩,
            ⟨(some 3), none, .q (.mv (.const (.slice none 0 0)))⟩,
            ⟨(some 4), none, .q (.mv (.tmp 41))⟩])
        (.ret))
        (.skip))))
      (.skip)))
    (.seq (.ops [⟨(some 42), none, .q (.mv (.tmp 0))⟩,
        ⟨(some 43), none, .q (.bld [(.pointer none)] [(0, 1, (.tmp 42))])⟩,
        ⟨(some 44), none, .e (.box 185 (.tmp 43))⟩,
        ⟨(some 45), none, .q (.mv (.tmp 6))⟩,
        ⟨(some 2), none, .q (.mv (.tmp 44))⟩,
        ⟨(some 3), none, .q (.mv (.tmp 45))⟩,
        ⟨(some 4), none, .q (.mv (.const (.int .i64 0)))⟩])
    (.ret)))))))))), []⟩
theorem k_flOpen : compF Tryz.prog 70 = some c_flOpen := by kernel_rfl
set_option maxHeartbeats 1000000 in
theorem flOpen_ok {W : World} {H : AHeap} {d : Nat} {n : Int} (h : DevH H d (.v (.slice none 0 0)) [] n) : ACalls Tryz.prog W 70 [ptr d] H fun v H' => ∃ l, v = .tup [ptr l, .v (.slice none 0 0), .v (.int .i64 0)] ∧ H l = none ∧ H' l = some (.cells tLog [ptr d]) ∧ Kept (fun _ => False) H H' := by
  refine fn_run follows k_flOpen rfl ?_
  simp only [c_flOpen, aretC_nil, List.zipIdx_cons, List.zipIdx_nil, List.map_cons, List.map_nil, Nat.zero_add]
  (try simp +decide (implicitDefEqProofs := false) only [go_sem, ↓stk_g, ↓stk_c, ↓reduceIte, lay, oneOr, List.take_succ_cons, List.take_zero, List.drop_succ_cons, List.drop_zero, List.nil_append, List.cons_append, Option.getD_some, Nat.reduceAdd, Nat.reduceLeDiff, List.append_nil, and_self, List.all_cons, List.all_nil])
  refine stk_call (devOff_ok h) fun v H' hv => ?_
  obtain ⟨rfl, rfl⟩ := hv
  (try simp +decide (implicitDefEqProofs := false) only [go_sem, ↓stk_g, ↓stk_c, ↓reduceIte, lay, oneOr, List.take_succ_cons, List.take_zero, List.drop_succ_cons, List.drop_zero, List.nil_append, List.cons_append, Option.getD_some, Nat.reduceAdd, Nat.reduceLeDiff, List.append_nil, and_self, List.all_cons, List.all_nil])
  refine stk_call (devBytes_ok h) fun v H1 hv => ?_
  obtain ⟨g, hgn, rfl, rfl⟩ := hv
  have hgn : H' g = none := hgn
  have hk : Kept (fun _ => False) H' (H'.put g (.buf tU8 1 [])) := Kept.new hgn
  have hse : steq [0, 0] (.agg [.v (.int .i64 0), .v (.int .i64 0)]) (.agg [.v (.int .i64 0), .v (.int .i64 0)]) = some true := by simp [steq, isAggA, aggA, flatEq, flat1]
  (try simp +decide (implicitDefEqProofs := false) only [go_sem, ↓stk_g, ↓stk_c, ↓reduceIte, List.length_nil, lay, oneOr, List.take_succ_cons, List.take_zero, List.drop_succ_cons, List.drop_zero, List.nil_append, List.cons_append, Option.getD_some, Nat.reduceAdd, Nat.reduceLeDiff, List.append_nil, and_self, List.all_cons, List.all_nil])
  generalize H'.put g (.buf tU8 1 []) = H1 at hk
  refine stk_loop (fun _ s => ∃ H2, Kept (fun _ => False) H' H2 ∧ s = ⟨[(7, .v (.int .i64 0)), (6, .v (.slice none 0 0)), (5, .bs g 1 0), (0, ptr d)], H2⟩) 0 ⟨[(7, .v (.int .i64 0)), (6, .v (.slice none 0 0)), (5, .bs g 1 0), (0, ptr d)], H1⟩ (Weak.list _ (Sub.refl _) (by (try simp +decide (implicitDefEqProofs := false) only [go_sem, ↓stk_g, ↓stk_c, ↓reduceIte]))) ⟨H1, hk, rfl⟩ ?_
  rintro m s1 ⟨H2, hk, rfl⟩
  (try simp +decide (implicitDefEqProofs := false) only [go_sem, ↓stk_g, ↓stk_c, ↓reduceIte, lay, oneOr, List.take_succ_cons, List.take_zero, List.drop_succ_cons, List.drop_zero, List.nil_append, List.cons_append, Option.getD_some, Nat.reduceAdd, Nat.reduceLeDiff, List.append_nil, and_self, List.all_cons, List.all_nil])
  refine stk_call flNext_ok fun v H3 hv => ?_
  obtain ⟨rfl, hk3⟩ := hv
  have hk3 := hk.trans hk3
  (try simp +decide (implicitDefEqProofs := false) only [go_sem, ↓stk_g, ↓stk_c, ↓reduceIte, lay, oneOr, List.take_succ_cons, List.take_zero, List.drop_succ_cons, List.drop_zero, List.nil_append, List.cons_append, Option.getD_some, Nat.reduceAdd, Nat.reduceLeDiff, List.append_nil, and_self, List.all_cons, List.all_nil])
  rw [stk_alloc]
  intro b hb
  have hk4 := hk3.trans (Kept.new (o := .cells 181 [.v (.int .i64 0), .v (.int .i64 0)]) hb)
  (try simp +decide (implicitDefEqProofs := false) only [go_sem, ↓stk_g, ↓stk_c, ↓reduceIte, hp_self, hp_hp, hse, Option.isSome_some, Option.getD_some, lay, oneOr, List.take_succ_cons, List.take_zero, List.drop_succ_cons, List.drop_zero, List.nil_append, List.cons_append, Option.getD_some, Nat.reduceAdd, Nat.reduceLeDiff, List.append_nil, and_self, List.all_cons, List.all_nil])
  rw [stk_box]
  refine ⟨by rfl, fun l hl => ?_⟩
  have hk5 := hk4.trans (Kept.new (o := .cells tLog [ptr d]) hl)
  (try simp +decide (implicitDefEqProofs := false) only [go_sem, ↓stk_g, ↓stk_c, ↓reduceIte, lay, oneOr, List.take_succ_cons, List.take_zero, List.drop_succ_cons, List.drop_zero, List.nil_append, List.cons_append, Option.getD_some, Nat.reduceAdd, Nat.reduceLeDiff, List.append_nil, and_self, List.all_cons, List.all_nil])
  refine ⟨.inr rfl, _, _, Sub.refl _, .refl _, l, rfl, ?_, hp_self _ _ _, hk5⟩
  cases e : H' l with
  | none => rfl
  | some o => have := hk4 _ _ e (fun h => h); rw [show (H3.put b _) l = none from hl] at this; cases this
theorem stk_appqS {P : Program} {W : World} {k : List Item} {Q : Exit → AState → Prop} {s : AState} {d : Option Nat} {E sz b : Nat} {st : Bool} {x y : Operand} {r : List AOper} {rows new : List (List AVal)} (hx : ev s.tm x = .sl true sz rows) (hs : srcOf s.H sz (ev s.tm y) = some new) (hne : new ≠ []) (hb : (rows.length + new.length) * b ≤ 140737488355328)
    (hK : ∀ g, s.H g = none → stk P W (.ops r :: k) Q .normal ((⟨s.tm, s.H.put g (.buf E sz (rows ++ new))⟩ : AState).put d (.bs g sz (rows.length + new.length)))) : stk P W (.ops (⟨d, none, .e (.appq E sz b st x y)⟩ :: r) :: k) Q .normal s := by
  show rops P W (⟨d, none, .e (.appq E sz b st x y)⟩ :: r) s _
  refine ⟨by rw [hx]; rfl, new, hs, fun e => absurd e hne, fun _ => ?_⟩
  rw [hx]
  exact ⟨⟨rfl, hb⟩, hK⟩
theorem bytesOf_len (t : Str) : (bytesOf t).length = t.size := by unfold bytesOf; rw [List.length_map, Array.length_toList]; rfl
def c_flApp : AFn := ⟨2, 35, [4],
  .seq (.ops [⟨(some 4), none, .q (.mv (.const (.int .i64 0)))⟩])
  (.seq (.ops [⟨(some 7), none, .q (.mv (.tmp 1))⟩,
      ⟨(some 8), none, .q (.len true (.tmp 7))⟩,
      ⟨(some 5), none, .q (.mv (.tmp 8))⟩])
  (.seq (.seq (.ops [⟨(some 9), none, .q (.mv (.tmp 5))⟩,
      ⟨(some 10), none, .q (.bin .gtr .num (.tmp 9) (.const (.int .i64 20000)))⟩])
  (.cond (.tmp 10)
    (.seq (.ops [⟨(some 4), none, .q (.mv (.const (.int .i64 4)))⟩])
    (.ret))
    (.skip)))
  (.seq (.seq (.ops [⟨(some 11), none, .q (.mv (.tmp 0))⟩,
      ⟨(some 12), none, .q (.nck (.tmp 11))⟩,
      ⟨(some 13), none, .q (.fad 0 1 (.tmp 12))⟩,
      ⟨(some 14), none, .q (.ld false 1 (.tmp 13))⟩,
      ⟨(some 15), none, .q (.mv (.tmp 5))⟩,
      ⟨(some 16), none, .q (.bin .shr .num (.tmp 15) (.const (.int .u64 16)))⟩,
      ⟨(some 17), none, .q (.cv (.int .u8) (.tmp 16))⟩,
      ⟨(some 18), none, .q (.mv (.tmp 5))⟩,
      ⟨(some 19), none, .q (.bin .shr .num (.tmp 18) (.const (.int .u64 8)))⟩,
      ⟨(some 20), none, .q (.cv (.int .u8) (.tmp 19))⟩,
      ⟨(some 21), none, .q (.mv (.tmp 5))⟩,
      ⟨(some 22), none, .q (.cv (.int .u8) (.tmp 21))⟩,
      ⟨(some 24), none, .q (.mv (.tmp 1))⟩,
      ⟨(some 23), none, .e (.bsl 5 1 [(.tmp 17), (.tmp 20), (.tmp 22)])⟩,
      ⟨(some 25), none, .e (.appq 5 1 1 true (.tmp 23) (.tmp 24))⟩,
      ⟨(some 26), none, .e (.call 127 [(.tmp 14), (.tmp 25)])⟩,
      ⟨(some 6), none, .q (.mv (.tmp 26))⟩])
  (.seq (.ops [⟨(some 27), none, .q (.mv (.tmp 6))⟩,
      ⟨(some 28), none, .q (.bin .neq .num (.tmp 27) (.const (.int .i64 0)))⟩])
  (.cond (.tmp 28)
    (.seq (.ops [⟨(some 29), none, .q (.mv (.tmp 6))⟩,
        ⟨(some 4), none, .q (.mv (.tmp 29))⟩])
    (.ret))
    (.skip))))
  (.seq (.ops [⟨(some 30), none, .q (.mv (.tmp 0))⟩,
      ⟨(some 31), none, .q (.nck (.tmp 30))⟩,
      ⟨(some 32), none, .q (.fad 0 1 (.tmp 31))⟩,
      ⟨(some 33), none, .q (.ld false 1 (.tmp 32))⟩,
      ⟨(some 34), none, .e (.call 128 [(.tmp 33)])⟩,
      ⟨(some 4), none, .q (.mv (.tmp 34))⟩])
  (.ret))))), []⟩
theorem k_flApp : compF Tryz.prog 77 = some c_flApp := by kernel_rfl
set_option maxHeartbeats 1000000 in
theorem flApp_ok {W : World} {H : AHeap} {l d : Nat} {X : AVal} {rows : List (List AVal)} {n : Int} (hl : H l = some (.cells tLog [ptr d])) (h : DevH H d X rows n) (t : Str) (ht : 0 < t.size) :
    ACalls Tryz.prog W 77 [ptr l, .v (.string t)] H fun v H' => ∃ e X' rows' n', v = .v (.int .i64 e) ∧ DevH H' d X' rows' n' ∧ Kept (fun c => c = d ∨ blkOf X = some c) H H' ∧ (t.size ≤ 20000 → rows.length + (3 + t.size) ≤ 60000 → e = 0) := by
  refine fn_run follows k_flApp rfl ?_
  simp only [c_flApp, aretC_nil, List.zipIdx_cons, List.zipIdx_nil, List.map_cons, List.map_nil, Nat.zero_add]
  by_cases hbig : 20000 < t.size
  · have g1 : (20000 : Int) < (t.size : Int) := by omega
    (try simp +decide (implicitDefEqProofs := false) only [go_sem, ↓stk_g, ↓stk_c, ↓reduceIte, g1, lay, oneOr, List.take_succ_cons, List.take_zero, List.drop_succ_cons, List.drop_zero, List.nil_append, List.cons_append, Option.getD_some, Nat.reduceAdd, Nat.reduceLeDiff, List.append_nil, and_self, List.all_cons, List.all_nil])
    exact ⟨.inr rfl, _, _, Sub.refl _, .refl _, _, _, _, _, rfl, h, .refl _ _, fun e => by omega⟩
  · have g1 : ¬ (20000 : Int) < (t.size : Int) := by omega
    (try simp +decide (implicitDefEqProofs := false) only [go_sem, ↓stk_g, ↓stk_c, ↓reduceIte, g1, hl, lay, oneOr, List.take_succ_cons, List.take_zero, List.drop_succ_cons, List.drop_zero, List.nil_append, List.cons_append, Option.getD_some, Nat.reduceAdd, Nat.reduceLeDiff, List.append_nil, and_self, List.all_cons, List.all_nil])
    have hbl := bytesOf_len t
    refine stk_appqS (new := bytesOf t) rfl rfl (fun e => by rw [e] at hbl; simp at hbl; omega) (by rw [hbl]; simp only [List.length_cons, List.length_nil]; omega) fun g hg => ?_
    have hg : H g = none := hg
    rw [hbl]
    simp only [List.length_cons, List.length_nil]
    have hall : ∀ (a b c : AVal), ([[a], [b], [c]] ++ bytesOf t).length = 3 + t.size := fun a b c => by simp [hbl]; omega
    generalize IntKind.u8.wrap _ = z1
    generalize IntKind.u8.wrap _ = z2
    generalize IntKind.u8.wrap _ = z3
    have hlen := hall (.v (.int .u8 z1)) (.v (.int .u8 z2)) (.v (.int .u8 z3))
    generalize [[AVal.v (.int .u8 z1)], [AVal.v (.int .u8 z2)], [AVal.v (.int .u8 z3)]] ++ bytesOf t = new at hlen ⊢
    have hk1 : ∀ c o, H c = some o → (H.put g (.buf tU8 1 new)) c = some o := fun c o hc => Kept.new (bad := fun _ => False) hg c o hc (fun h => h)
    have hd1 := h.kept hk1
    have hap := devApp_ok (W := W) hd1 (put_self H g (.buf tU8 1 new)) (by omega)
    rw [hlen] at hap
    have hl1 := hk1 _ _ hl
    generalize H.put g (.buf tU8 1 new) = H1 at hk1 hd1 hap hl1 ⊢
    refine stk_call hap fun v H2 hv => ?_
    obtain ⟨e, X2, rows2, rfl, hd2, hk2, he⟩ := hv
    have hK2 : Kept (fun c => c = d ∨ blkOf X = some c) H H2 := fun c o hc hb => hk2 c o (hk1 c o hc) hb
    have hl2 : H2 l = some (.cells tLog [ptr d]) := hK2 _ _ hl (fun hh => by
      rcases hh with rfl | hh
      · have := h.here; rw [hl] at this; cases this
      · exact h.row.off hl (fun _ _ _ e => by cases e) hh)
    by_cases e0 : e = 0
    · subst e0
      (try simp +decide (implicitDefEqProofs := false) only [go_sem, ↓stk_g, ↓stk_c, ↓reduceIte, hl2, ne_eq, not_true_eq_false, lay, oneOr, List.take_succ_cons, List.take_zero, List.drop_succ_cons, List.drop_zero, List.nil_append, List.cons_append, Option.getD_some, Nat.reduceAdd, Nat.reduceLeDiff, List.append_nil, and_self, List.all_cons, List.all_nil])
      refine stk_call (devSync_ok hd2) fun v H3 hv => ?_
      obtain ⟨rfl, rfl⟩ := hv
      (try simp +decide (implicitDefEqProofs := false) only [go_sem, ↓stk_g, ↓stk_c, ↓reduceIte, lay, oneOr, List.take_succ_cons, List.take_zero, List.drop_succ_cons, List.drop_zero, List.nil_append, List.cons_append, Option.getD_some, Nat.reduceAdd, Nat.reduceLeDiff, List.append_nil, and_self, List.all_cons, List.all_nil])
      refine ⟨.inr rfl, _, _, Sub.refl _, .refl _, 0, X2, rows2, rows2.length, rfl, ⟨put_self _ _ _, hd2.row.put (hd2.row.off hd2.here (fun _ _ _ e => by cases e)), hd2.few⟩, fun c o hc hb => (put_ne _ _ (fun e => hb (.inl e))).trans (hK2 c o hc hb), fun _ _ => rfl⟩
    · have d0 : decide (¬ e = 0) = true := decide_eq_true e0
      (try simp +decide (implicitDefEqProofs := false) only [go_sem, ↓stk_g, ↓stk_c, ↓reduceIte, hl2, d0, ne_eq, lay, oneOr, List.take_succ_cons, List.take_zero, List.drop_succ_cons, List.drop_zero, List.nil_append, List.cons_append, Option.getD_some, Nat.reduceAdd, Nat.reduceLeDiff, List.append_nil, and_self, List.all_cons, List.all_nil])
      exact ⟨.inr rfl, _, _, Sub.refl _, .refl _, e, X2, rows2, n, rfl, hd2, hK2, fun h1 h2 => (he h2).1⟩
end Go.Proofs.YtcbagpippmbmfaaGreatDoor.M
