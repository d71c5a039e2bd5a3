/-
 The device and its log: walked.
-/
import Derived.Test.YtfaodacmdlnabaaGreatDoorDg5
import Derived.Test.YtfaodacmdlnabaaGreatDoorGf
namespace Go.Proofs.YtfaodacmdlnabaaGreatDoor.M
open Go.RowKit
set_option linter.unusedVariables false
set_option linter.unusedSimpArgs false
abbrev tDev : Nat := 113
abbrev tLog : Nat := 200
abbrev tU8 : Nat := 5
/-- What stands, but for some blocks. -/
def Kept (bad : Nat → Prop) (H H' : AHeap) : Prop := ∀ c o, H c = some o → ¬ bad c → H' c = some o
theorem Kept.refl (bad : Nat → Prop) (H : AHeap) : Kept bad H H := fun _ _ h _ => h
theorem Kept.trans {bad : Nat → Prop} {H H' H2 : AHeap} (h : Kept bad H H') (k : Kept bad H' H2) : Kept bad H H2 := fun c o hc hb => k c o (h c o hc hb) hb
theorem Kept.weak {bad bad' : Nat → Prop} {H H' : AHeap} (h : Kept bad H H') (hb : ∀ c, bad c → bad' c) : Kept bad' H H' := fun c o hc hn => h c o hc fun e => hn (hb c e)
theorem Kept.new {bad : Nat → Prop} {H : AHeap} {b : Nat} {o : AObj} (h : H b = none) : Kept bad H (H.put b o) := fun c o' hc _ => by
 rw [put_ne]; exact hc
 intro e; rw [e, h] at hc; cases hc
theorem Kept.put {bad : Nat → Prop} {H : AHeap} {b : Nat} {o : AObj} (h : bad b) : Kept bad H (H.put b o) := fun c o' hc hb => by
 rw [put_ne]; exact hc
 intro e; rw [e] at hb; exact hb h
def devCells (X : AVal) (n : Int) : List AVal := [X, .v (.int .i64 n), .v (.int .i64 (-1)), .v (.bool false)]
/-- A device that does not die. -/
structure DevH (H : AHeap) (d : Nat) (X : AVal) (rows : List (List AVal)) (n : Int) : Prop where
 here : H d = some (.cells tDev (devCells X n))
 row : RowO H tU8 1 X rows
 few : rows.length ≤ 60000
theorem DevH.kept {H H' : AHeap} {d : Nat} {X : AVal} {rows : List (List AVal)} {n : Int} (h : DevH H d X rows n) (hk : ∀ c o, H c = some o → H' c = some o) : DevH H' d X rows n :=
 ⟨hk _ _ h.here, h.row.keep fun b o _ hb => hk _ _ hb, h.few⟩
def c_devNew : AFn := ⟨0, 4, [0],
 .seq (.ops [oq 0 (.mv (.const (.pointer none)))])
 (.seq (.ops [oq 1 (.bld [(.int .i64 0), (.int .i64 0)] [(0, 1, (.const (.int .i64 0))), (1, 1, (.const (.int .i64 (-1))))]),
   oq 2 (.bld [(.slice none 0 0), (.int .i64 0), (.int .i64 0), (.bool false)] [(1, 2, (.tmp 1))]),
   oe 3 (.box 113 (.tmp 2)),
   oq 0 (.mv (.tmp 3))])
 (.ret)), []⟩
theorem k_devNew : compF Tryz.prog 47 = some c_devNew := by kernel_rfl
theorem devNew_ok {W : World} {H : AHeap} : ACalls Tryz.prog W 47 [] H fun v H' => ∃ d, H d = none ∧ v = ptr d ∧ H' = H.put d (.cells tDev (devCells (.v (.slice none 0 0)) 0)) := by
 refine fn_run follows k_devNew rfl ?_
 simp only [oq, og, oe, oh, on, c_devNew, aretC_nil, List.zipIdx_cons, List.zipIdx_nil, List.map_cons, List.map_nil, Nat.zero_add]
 (try simp +decide -implicitDefEqProofs only [go_sem, lay, oneOr, List.take_succ_cons, List.take_zero, List.drop_succ_cons, List.drop_zero, List.nil_append, List.cons_append, Option.getD_some, Nat.reduceAdd, Nat.reduceLeDiff, List.append_nil, and_self, List.all_cons, List.all_nil])
 rw [stk_box]
 refine ⟨by rfl, fun b hb => ?_⟩
 (try simp +decide -implicitDefEqProofs only [go_sem, lay, oneOr, List.take_succ_cons, List.take_zero, List.drop_succ_cons, List.drop_zero, List.nil_append, List.cons_append, Option.getD_some, Nat.reduceAdd, Nat.reduceLeDiff, List.append_nil, and_self, List.all_cons, List.all_nil])
 exact ⟨.inr rfl, _, _, Sub.refl _, .refl _, b, hb, rfl, rfl⟩
def c_devOff : AFn := ⟨1, 7, [2],
 .seq (.ops [oq 2 (.mv (.const (.bool false)))])
 (.seq (.ops [oq 3 (.mv (.tmp 0)),
   oq 4 (.nck (.tmp 3)),
   oq 5 (.fad 3 1 (.tmp 4)),
   oq 6 (.ld false 1 (.tmp 5)),
   oq 2 (.mv (.tmp 6))])
 (.ret)), []⟩
theorem k_devOff : compF Tryz.prog 153 = some c_devOff := by kernel_rfl
theorem devOff_ok {W : World} {H : AHeap} {d : Nat} {X : AVal} {rows : List (List AVal)} {n : Int} (h : DevH H d X rows n) : ACalls Tryz.prog W 153 [ptr d] H fun v H' => v = .v (.bool false) ∧ H' = H := by
 have hg := h.here
 unfold devCells at hg
 refine fn_run follows k_devOff rfl ?_
 simp only [oq, og, oe, oh, on, c_devOff, aretC_nil, List.zipIdx_cons, List.zipIdx_nil, List.map_cons, List.map_nil, Nat.zero_add]
 (try simp +decide -implicitDefEqProofs only [go_sem, hg, lay, oneOr, List.take_succ_cons, List.take_zero, List.drop_succ_cons, List.drop_zero, List.nil_append, List.cons_append, Option.getD_some, Nat.reduceAdd, Nat.reduceLeDiff, List.append_nil, and_self, List.all_cons, List.all_nil])
 exact ⟨.inr rfl, _, _, Sub.refl _, .refl _, rfl, rfl⟩
def c_devGoes : AFn := ⟨1, 27, [2],
 .seq (.ops [oq 2 (.mv (.const (.bool false)))])
 (.seq (.ops [oq 3 (.mv (.tmp 0)),
   oq 4 (.mv (.tmp 0)),
   oq 5 (.nck (.tmp 4)),
   oq 6 (.fad 1 2 (.tmp 5)),
   oq 7 (.fad 1 1 (.tmp 6)),
   oq 8 (.ld false 1 (.tmp 7)),
   oq 9 (.bin .eql .num (.tmp 8) (.const (.int .i64 0))),
   oq 10 (.nck (.tmp 3)),
   oq 11 (.fad 3 1 (.tmp 10)),
   on (.st 1 (.tmp 11) (.tmp 9))])
 (.seq (.ops [oq 12 (.mv (.tmp 0)),
   oq 13 (.mv (.tmp 0)),
   oq 14 (.nck (.tmp 13)),
   oq 15 (.fad 1 2 (.tmp 14)),
   oq 16 (.fad 1 1 (.tmp 15)),
   oq 17 (.ld false 1 (.tmp 16)),
   oq 18 (.bin .sub .num (.tmp 17) (.const (.int .i64 1))),
   oq 19 (.mm true (.tmp 18) (.const (.int .i64 (-1)))),
   oq 20 (.nck (.tmp 12)),
   oq 21 (.fad 1 2 (.tmp 20)),
   oq 22 (.fad 1 1 (.tmp 21)),
   on (.st 1 (.tmp 22) (.tmp 19))])
 (.seq (.ops [oq 23 (.mv (.tmp 0)),
   oq 24 (.nck (.tmp 23)),
   oq 25 (.fad 3 1 (.tmp 24)),
   oq 26 (.ld false 1 (.tmp 25)),
   oq 2 (.mv (.tmp 26))])
 (.ret)))), []⟩
theorem k_devGoes : compF Tryz.prog 183 = some c_devGoes := by kernel_rfl
theorem devGoes_ok {W : World} {H : AHeap} {d : Nat} {X : AVal} {rows : List (List AVal)} {n : Int} (h : DevH H d X rows n) : ACalls Tryz.prog W 183 [ptr d] H fun v H' => v = .v (.bool false) ∧ H' = H := by
 have hg := h.here
 have hid := put_id hg
 unfold devCells at hg hid
 have d1 : decide ((-1 : Int) = 0) = false := by decide
 have w1 : IntKind.i64.wrap (-1 - 1) = -2 := by decide
 have w2 : max (-2 : Int) (-1) = -1 := by decide
 refine fn_run follows k_devGoes rfl ?_
 simp only [oq, og, oe, oh, on, c_devGoes, aretC_nil, List.zipIdx_cons, List.zipIdx_nil, List.map_cons, List.map_nil, Nat.zero_add]
 (try simp +decide -implicitDefEqProofs only [go_sem, hg, hp_self, hp_hp, hid, d1, w1, w2, lay, oneOr, List.take_succ_cons, List.take_zero, List.drop_succ_cons, List.drop_zero, List.nil_append, List.cons_append, Option.getD_some, Nat.reduceAdd, Nat.reduceLeDiff, List.append_nil, and_self, List.all_cons, List.all_nil])
 refine ⟨.inr rfl, _, _, Sub.refl _, .refl _, rfl, rfl⟩
def c_devSync : AFn := ⟨1, 20, [2],
 .seq (.ops [oq 2 (.mv (.const (.int .i64 0)))])
 (.seq (.seq (.ops [oq 3 (.mv (.tmp 0)),
   oq 4 (.nck (.tmp 3)),
   oq 5 (.fad 3 1 (.tmp 4)),
   oq 6 (.ld false 1 (.tmp 5)),
   oq 7 (.mv (.tmp 6)),
   og 8 7 false (.mv (.tmp 0)),
   oh 9 7 false (.call 183 [(.tmp 8)]),
   oq 10 (.pick (.tmp 7) (.const (.bool true)) (.tmp 9))])
 (.cond (.tmp 10)
  (.seq (.ops [oq 2 (.mv (.const (.int .i64 11)))])
  (.ret))
  (.skip)))
 (.seq (.ops [oq 11 (.mv (.tmp 0)),
   oq 12 (.mv (.tmp 0)),
   oq 13 (.nck (.tmp 12)),
   oq 14 (.fad 0 1 (.tmp 13)),
   oq 15 (.ld false 1 (.tmp 14)),
   oq 16 (.len false (.tmp 15)),
   oq 17 (.nck (.tmp 11)),
   oq 18 (.fad 1 2 (.tmp 17)),
   oq 19 (.fad 0 1 (.tmp 18)),
   on (.st 1 (.tmp 19) (.tmp 16))])
 (.seq (.ops [oq 2 (.mv (.const (.int .i64 0)))])
 (.ret)))), []⟩
theorem k_devSync : compF Tryz.prog 187 = some c_devSync := by kernel_rfl
theorem devSync_ok {W : World} {H : AHeap} {d : Nat} {X : AVal} {rows : List (List AVal)} {n : Int} (h : DevH H d X rows n) : ACalls Tryz.prog W 187 [ptr d] H fun v H' => v = .v (.int .i64 0) ∧ H' = H.put d (.cells tDev (devCells X rows.length)) := by
 have hg := h.here
 unfold devCells at hg
 have hgo := devGoes_ok (W := W) h
 refine fn_run follows k_devSync rfl ?_
 simp only [oq, og, oe, oh, on, c_devSync, aretC_nil, List.zipIdx_cons, List.zipIdx_nil, List.map_cons, List.map_nil, Nat.zero_add]
 have hr := h.row
 (try simp +decide -implicitDefEqProofs only [go_sem, hg, hp_self, hp_hp, lay, oneOr, List.take_succ_cons, List.take_zero, List.drop_succ_cons, List.drop_zero, List.nil_append, List.cons_append, Option.getD_some, Nat.reduceAdd, Nat.reduceLeDiff, List.append_nil, and_self, List.all_cons, List.all_nil])
 refine stk_call hgo fun v H' hv => ?_
 obtain ⟨rfl, rfl⟩ := hv
 cases hr with
 | nil =>
  (try simp +decide -implicitDefEqProofs only [go_sem, hg, hp_self, hp_hp, lay, oneOr, List.take_succ_cons, List.take_zero, List.drop_succ_cons, List.drop_zero, List.nil_append, List.cons_append, Option.getD_some, Nat.reduceAdd, Nat.reduceLeDiff, List.append_nil, and_self, List.all_cons, List.all_nil])
  refine ⟨.inr rfl, _, _, Sub.refl _, .refl _, rfl, rfl⟩
 | bs h hn =>
  (try simp +decide -implicitDefEqProofs only [go_sem, hg, hp_self, hp_hp, lay, oneOr, List.take_succ_cons, List.take_zero, List.drop_succ_cons, List.drop_zero, List.nil_append, List.cons_append, Option.getD_some, Nat.reduceAdd, Nat.reduceLeDiff, List.append_nil, and_self, List.all_cons, List.all_nil])
  refine ⟨.inr rfl, _, _, Sub.refl _, .refl _, rfl, by rw [← hn]; rfl⟩
theorem DevH.len {H : AHeap} {d : Nat} {X : AVal} {rows : List (List AVal)} {n : Int} (h : DevH H d X rows n) : X = .v (.slice none 0 0) ∧ rows = [] ∨ ∃ g, X = .bs g 1 rows.length ∧ H g = some (.buf tU8 1 rows) ∧ g ≠ d := by
 have hr := h.row
 have hg := h.here
 cases hr with
 | nil => exact .inl ⟨rfl, rfl⟩
 | bs hb hn => exact .inr ⟨_, by rw [hn], hb, fun e => by subst e; rw [hg] at hb; cases hb⟩
theorem DevH.src {H : AHeap} {d : Nat} {X : AVal} {rows : List (List AVal)} {n : Int} (h : DevH H d X rows n) : srcOf H 1 X = some rows := by
 rcases h.len with ⟨rfl, rfl⟩ | ⟨g, rfl, hb, _⟩
 ·rfl
 ·simp [srcOf, hb]
theorem RowO.shapeB {H : AHeap} {E sz : Nat} {x : AVal} {rows : List (List AVal)} (h : RowO H E sz x rows) : x = .v (.slice none 0 0) ∧ rows = [] ∨ ∃ g, x = .bs g sz rows.length ∧ H g = some (.buf E sz rows) := by
 cases h with
 | nil => exact .inl ⟨rfl, rfl⟩
 | bs hb hn => exact .inr ⟨_, by rw [hn], hb⟩
def c_devApp : AFn := ⟨2, 32, [4],
 .seq (.ops [oq 4 (.mv (.const (.int .i64 0)))])
 (.seq (.block 0 (.seq (.ops [oq 6 (.mv (.tmp 0)),
    oq 7 (.nck (.tmp 6)),
    oq 8 (.fad 3 1 (.tmp 7)),
    oq 9 (.ld false 1 (.tmp 8)),
    oq 5 (.mv (.tmp 9))])
  (.cond (.tmp 5)
   (.seq (.ops [oq 4 (.mv (.const (.int .i64 11)))])
   (.ret))
   (.seq (.ops [oq 11 (.mv (.tmp 0)),
     oq 12 (.nck (.tmp 11)),
     oq 13 (.fad 0 1 (.tmp 12)),
     oq 14 (.ld false 1 (.tmp 13)),
     oq 15 (.len false (.tmp 14)),
     oq 16 (.mv (.tmp 1)),
     oq 17 (.len false (.tmp 16)),
     oq 18 (.bin .add .num (.tmp 15) (.tmp 17)),
     oq 19 (.bin .gtr .num (.tmp 18) (.const (.int .i64 60000))),
     oq 10 (.mv (.tmp 19))])
   (.cond (.tmp 10)
    (.seq (.ops [oq 4 (.mv (.const (.int .i64 10)))])
    (.ret))
    (.seq (.ops [oq 21 (.mv (.tmp 0)),
      oe 22 (.call 183 [(.tmp 21)]),
      oq 20 (.mv (.tmp 22))])
    (.cond (.tmp 20)
     (.seq (.ops [oq 4 (.mv (.const (.int .i64 11)))])
     (.ret))
     (.skip))))))))
 (.seq (.ops [oq 23 (.mv (.tmp 0)),
   oq 24 (.mv (.tmp 0)),
   oq 25 (.nck (.tmp 24)),
   oq 26 (.fad 0 1 (.tmp 25)),
   oq 27 (.ld false 1 (.tmp 26)),
   oq 28 (.mv (.tmp 1)),
   oe 29 (.app 5 1 1 false (.tmp 27) (.tmp 28)),
   oq 30 (.nck (.tmp 23)),
   oq 31 (.fad 0 1 (.tmp 30)),
   on (.st 1 (.tmp 31) (.tmp 29))])
 (.seq (.ops [oq 4 (.mv (.const (.int .i64 0)))])
 (.ret)))), []⟩
theorem k_devApp : compF Tryz.prog 186 = some c_devApp := by kernel_rfl
set_option maxHeartbeats 1000000 in
theorem devApp_ok {W : World} {H : AHeap} {d : Nat} {X : AVal} {rows : List (List AVal)} {n : Int} (h : DevH H d X rows n) {g : Nat} {new : List (List AVal)} (hy : H g = some (.buf tU8 1 new)) (hnl : new.length ≤ 100000) :
  ACalls Tryz.prog W 186 [ptr d, .bs g 1 new.length] H fun v H' => ∃ e X' rows', v = .v (.int .i64 e) ∧ DevH H' d X' rows' n ∧ Kept (fun c => c = d ∨ blkOf X = some c) H H' ∧ (rows.length + new.length ≤ 60000 → e = 0 ∧ rows'.length = rows.length + new.length) := by
 have hg := h.here
 unfold devCells at hg
 have hgo := devGoes_ok (W := W) h
 have hsrc : srcOf H 1 (.bs g 1 new.length) = some new := by simp [srcOf, hy]
 have hfew := h.few
 refine fn_run follows k_devApp rfl ?_
 simp only [oq, og, oe, oh, on, c_devApp, aretC_nil, List.zipIdx_cons, List.zipIdx_nil, List.map_cons, List.map_nil, Nat.zero_add]
 have hw : IntKind.i64.wrap ((rows.length : Int) + (new.length : Int)) = (rows.length : Int) + (new.length : Int) := by rw [IntKind.wrap_i64]; omega
 have hw0 : IntKind.i64.wrap (new.length : Int) = (new.length : Int) := by rw [IntKind.wrap_i64]; omega
 by_cases hbig : 60000 < rows.length + new.length
 ·have g1 : (60000 : Int) < (rows.length : Int) + (new.length : Int) := by omega
  rcases h.len with ⟨rfl, rfl⟩ | ⟨gx, rfl, hbx, hgx⟩
  ·have g1 : (60000 : Int) < (new.length : Int) := by simp at g1; exact g1
   (try simp +decide -implicitDefEqProofs only [go_sem, hg, g1, hw0, Int.zero_add, lay, oneOr, List.take_succ_cons, List.take_zero, List.drop_succ_cons, List.drop_zero, List.nil_append, List.cons_append, Option.getD_some, Nat.reduceAdd, Nat.reduceLeDiff, List.append_nil, and_self, List.all_cons, List.all_nil])
   exact ⟨.inr rfl, _, _, Sub.refl _, .refl _, _, _, _, rfl, h, .refl _ _, fun e => by omega⟩
  ·(try simp +decide -implicitDefEqProofs only [go_sem, hg, g1, hw, lay, oneOr, List.take_succ_cons, List.take_zero, List.drop_succ_cons, List.drop_zero, List.nil_append, List.cons_append, Option.getD_some, Nat.reduceAdd, Nat.reduceLeDiff, List.append_nil, and_self, List.all_cons, List.all_nil])
   exact ⟨.inr rfl, _, _, Sub.refl _, .refl _, _, _, _, rfl, h, .refl _ _, fun e => by omega⟩
 ·have g1 : ¬ (60000 : Int) < (rows.length : Int) + (new.length : Int) := by omega
  rcases h.len with ⟨rfl, rfl⟩ | ⟨gx, rfl, hbx, hgx⟩
  ·have g1 : ¬ (60000 : Int) < (new.length : Int) := by simp at g1; omega
   (try simp +decide -implicitDefEqProofs only [go_sem, hg, g1, hw0, Int.zero_add, lay, oneOr, List.take_succ_cons, List.take_zero, List.drop_succ_cons, List.drop_zero, List.nil_append, List.cons_append, Option.getD_some, Nat.reduceAdd, Nat.reduceLeDiff, List.append_nil, and_self, List.all_cons, List.all_nil])
   refine stk_call hgo fun v H' hv => ?_
   obtain ⟨rfl, rfl⟩ := hv
   (try simp +decide -implicitDefEqProofs only [go_sem, hg, lay, oneOr, List.take_succ_cons, List.take_zero, List.drop_succ_cons, List.drop_zero, List.nil_append, List.cons_append, Option.getD_some, Nat.reduceAdd, Nat.reduceLeDiff, List.append_nil, and_self, List.all_cons, List.all_nil])
   refine stk_appO (rows := []) .nil hsrc (by simp; omega) fun X1 H2 hr1 hrest => ?_
   have hg2 : H2 d = _ := hrest _ _ hg (fun e => by cases e)
   rcases hr1.shapeB with ⟨rfl, _⟩ | ⟨g1, rfl, _⟩
   ·(try simp +decide -implicitDefEqProofs only [go_sem, hg2, hp_self, hp_hp, lay, oneOr, List.take_succ_cons, List.take_zero, List.drop_succ_cons, List.drop_zero, List.nil_append, List.cons_append, Option.getD_some, Nat.reduceAdd, Nat.reduceLeDiff, List.append_nil, and_self, List.all_cons, List.all_nil])
    refine ⟨.inr rfl, _, _, Sub.refl _, .refl _, 0, _, _, rfl, ⟨hp_self _ _ _, hr1.put (hr1.off hg2 (fun _ _ _ e => by cases e)), by simp; omega⟩, (fun c o hc hb => ?_), fun _ => ⟨rfl, by simp⟩⟩
    have hcd : c ≠ d := fun e => hb (.inl e)
    exact (hp_ne _ _ hcd).trans (hrest c o hc (fun e => by cases e))
   ·(try simp +decide -implicitDefEqProofs only [go_sem, hg2, hp_self, hp_hp, lay, oneOr, List.take_succ_cons, List.take_zero, List.drop_succ_cons, List.drop_zero, List.nil_append, List.cons_append, Option.getD_some, Nat.reduceAdd, Nat.reduceLeDiff, List.append_nil, and_self, List.all_cons, List.all_nil])
    refine ⟨.inr rfl, _, _, Sub.refl _, .refl _, 0, _, _, rfl, ⟨hp_self _ _ _, hr1.put (hr1.off hg2 (fun _ _ _ e => by cases e)), by simp; omega⟩, (fun c o hc hb => ?_), fun _ => ⟨rfl, by simp⟩⟩
    have hcd : c ≠ d := fun e => hb (.inl e)
    exact (hp_ne _ _ hcd).trans (hrest c o hc (fun e => by cases e))
  ·(try simp +decide -implicitDefEqProofs only [go_sem, hg, g1, hw, lay, oneOr, List.take_succ_cons, List.take_zero, List.drop_succ_cons, List.drop_zero, List.nil_append, List.cons_append, Option.getD_some, Nat.reduceAdd, Nat.reduceLeDiff, List.append_nil, and_self, List.all_cons, List.all_nil])
   refine stk_call hgo fun v H' hv => ?_
   obtain ⟨rfl, rfl⟩ := hv
   (try simp +decide -implicitDefEqProofs only [go_sem, hg, lay, oneOr, List.take_succ_cons, List.take_zero, List.drop_succ_cons, List.drop_zero, List.nil_append, List.cons_append, Option.getD_some, Nat.reduceAdd, Nat.reduceLeDiff, List.append_nil, and_self, List.all_cons, List.all_nil])
   refine stk_appO (rows := rows) h.row hsrc (by omega) fun X1 H2 hr1 hrest => ?_
   have hg2 : H2 d = _ := hrest _ _ hg (h.row.off h.here (fun _ _ _ e => by cases e))
   rcases hr1.shapeB with ⟨rfl, _⟩ | ⟨g1, rfl, _⟩
   ·(try simp +decide -implicitDefEqProofs only [go_sem, hg2, hp_self, hp_hp, lay, oneOr, List.take_succ_cons, List.take_zero, List.drop_succ_cons, List.drop_zero, List.nil_append, List.cons_append, Option.getD_some, Nat.reduceAdd, Nat.reduceLeDiff, List.append_nil, and_self, List.all_cons, List.all_nil])
    refine ⟨.inr rfl, _, _, Sub.refl _, .refl _, 0, _, _, rfl, ⟨hp_self _ _ _, hr1.put (hr1.off hg2 (fun _ _ _ e => by cases e)), by simp; omega⟩, (fun c o hc hb => ?_), fun _ => ⟨rfl, by simp⟩⟩
    have hcd : c ≠ d := fun e => hb (.inl e)
    exact (hp_ne _ _ hcd).trans (hrest c o hc fun e => hb (.inr e))
   ·(try simp +decide -implicitDefEqProofs only [go_sem, hg2, hp_self, hp_hp, lay, oneOr, List.take_succ_cons, List.take_zero, List.drop_succ_cons, List.drop_zero, List.nil_append, List.cons_append, Option.getD_some, Nat.reduceAdd, Nat.reduceLeDiff, List.append_nil, and_self, List.all_cons, List.all_nil])
    refine ⟨.inr rfl, _, _, Sub.refl _, .refl _, 0, _, _, rfl, ⟨hp_self _ _ _, hr1.put (hr1.off hg2 (fun _ _ _ e => by cases e)), by simp; omega⟩, (fun c o hc hb => ?_), fun _ => ⟨rfl, by simp⟩⟩
    have hcd : c ≠ d := fun e => hb (.inl e)
    exact (hp_ne _ _ hcd).trans (hrest c o hc fun e => hb (.inr e))
def c_devBytes : AFn := ⟨1, 17, [2],
 .seq (.ops [oq 2 (.mv (.const (.slice none 0 0)))])
 (.seq (.ops [oq 4 (.mv (.tmp 0)),
   oq 5 (.nck (.tmp 4)),
   oq 6 (.fad 0 1 (.tmp 5)),
   oq 7 (.ld false 1 (.tmp 6)),
   oq 8 (.len false (.tmp 7)),
   oe 9 (.mks 5 1 (.int .u8 0) (.tmp 8)),
   oq 3 (.mv (.tmp 9))])
 (.seq (.ops [oq 10 (.mv (.tmp 3)),
   oq 11 (.mv (.tmp 0)),
   oq 12 (.nck (.tmp 11)),
   oq 13 (.fad 0 1 (.tmp 12)),
   oq 14 (.ld false 1 (.tmp 13)),
   oe 15 (.cpy 1 (.tmp 10) (.tmp 14))])
 (.seq (.ops [oq 16 (.mv (.tmp 3)),
   oq 2 (.mv (.tmp 16))])
 (.ret)))), []⟩
theorem k_devBytes : compF Tryz.prog 154 = some c_devBytes := by kernel_rfl
theorem devBytes_ok {W : World} {H : AHeap} {d : Nat} {X : AVal} {rows : List (List AVal)} {n : Int} (h : DevH H d X rows n) : ACalls Tryz.prog W 154 [ptr d] H fun v H' => ∃ g, H g = none ∧ v = .bs g 1 rows.length ∧ H' = H.put g (.buf tU8 1 rows) := by
 have hg := h.here
 unfold devCells at hg
 have hfew := h.few
 have hsrc := h.src
 have key : ∀ b, H b = none → (∀ c o, H c = some o → (H.put b o) c = H c ∧ c ≠ b) := fun b hb c o hc => ⟨hp_ne _ _ (fun e => by rw [e, hb] at hc; cases hc), fun e => by rw [e, hb] at hc; cases hc⟩
 refine fn_run follows k_devBytes rfl ?_
 simp only [oq, og, oe, oh, on, c_devBytes, aretC_nil, List.zipIdx_cons, List.zipIdx_nil, List.map_cons, List.map_nil, Nat.zero_add]
 rcases h.len with ⟨rfl, rfl⟩ | ⟨gx, rfl, hbx, hgx⟩
 ·(try simp +decide -implicitDefEqProofs only [go_sem, hg, lay, oneOr, List.take_succ_cons, List.take_zero, List.drop_succ_cons, List.drop_zero, List.nil_append, List.cons_append, Option.getD_some, Nat.reduceAdd, Nat.reduceLeDiff, List.append_nil, and_self, List.all_cons, List.all_nil])
  refine stk_mks (n := 0) rfl (by omega) (by omega) fun b hb => ?_
  have hdb : d ≠ b := (key b hb d _ hg).2
  have hg2 : ∀ o, (H.put b o) d = _ := fun o => (hp_ne H o hdb).trans hg
  (try simp +decide -implicitDefEqProofs only [go_sem, hg2, lay, oneOr, List.take_succ_cons, List.take_zero, List.drop_succ_cons, List.drop_zero, List.nil_append, List.cons_append, Option.getD_some, Nat.reduceAdd, Nat.reduceLeDiff, List.append_nil, and_self, List.all_cons, List.all_nil])
  refine stk_cpy (E := tU8) (rows := List.replicate 0 [.v (.int .u8 0)]) (new := []) rfl (put_self _ _ _) rfl rfl rfl ?_
  (try simp +decide -implicitDefEqProofs only [go_sem, hp_hp, lay, oneOr, List.take_succ_cons, List.take_zero, List.drop_succ_cons, List.drop_zero, List.nil_append, List.cons_append, Option.getD_some, Nat.reduceAdd, Nat.reduceLeDiff, List.append_nil, and_self, List.all_cons, List.all_nil])
  exact ⟨.inr rfl, _, _, Sub.refl _, .refl _, b, hb, rfl, rfl⟩
 ·(try simp +decide -implicitDefEqProofs only [go_sem, hg, lay, oneOr, List.take_succ_cons, List.take_zero, List.drop_succ_cons, List.drop_zero, List.nil_append, List.cons_append, Option.getD_some, Nat.reduceAdd, Nat.reduceLeDiff, List.append_nil, and_self, List.all_cons, List.all_nil])
  refine stk_mks (n := rows.length) rfl (by omega) (by omega) fun b hb => ?_
  have hdb : d ≠ b := (key b hb d _ hg).2
  have hxb : gx ≠ b := (key b hb gx _ hbx).2
  have hg2 : ∀ o, (H.put b o) d = _ := fun o => (hp_ne H o hdb).trans hg
  (try simp +decide -implicitDefEqProofs only [go_sem, hg2, lay, oneOr, List.take_succ_cons, List.take_zero, List.drop_succ_cons, List.drop_zero, List.nil_append, List.cons_append, Option.getD_some, Nat.reduceAdd, Nat.reduceLeDiff, List.append_nil, and_self, List.all_cons, List.all_nil])
  refine stk_cpy (E := tU8) (rows := List.replicate rows.length [.v (.int .u8 0)]) (new := rows) rfl (put_self _ _ _) (by simp [srcOf, ev, tget, AState.put, put_ne _ _ hxb, hbx]) (by simp) rfl ?_
  (try simp +decide -implicitDefEqProofs only [go_sem, hp_hp, lay, oneOr, List.take_succ_cons, List.take_zero, List.drop_succ_cons, List.drop_zero, List.nil_append, List.cons_append, Option.getD_some, Nat.reduceAdd, Nat.reduceLeDiff, List.append_nil, and_self, List.all_cons, List.all_nil])
  exact ⟨.inr rfl, _, _, Sub.refl _, .refl _, b, hb, rfl, rfl⟩
def c_flNext : AFn := ⟨2, 52, [52],
 .seq (.ops [oe 4 (.alloc 197 [(.int .i64 0), (.int .i64 0)])])
 (.seq (.seq (.ops [oq 7 (.mv (.tmp 0)),
   oq 8 (.len false (.tmp 7)),
   oq 9 (.mv (.tmp 1)),
   oq 10 (.bin .sub .num (.tmp 8) (.tmp 9)),
   oq 11 (.bin .lss .num (.tmp 10) (.const (.int .i64 3)))])
 (.cond (.tmp 11)
  (.seq (.ops [oq 12 (.bld [(.int .i64 0), (.int .i64 0)] []),
    on (.st 2 (.tmp 4) (.tmp 12))])
  (.ret))
  (.skip)))
 (.seq (.ops [oq 13 (.mv (.tmp 0)),
   oq 14 (.mv (.tmp 1)),
   oq 15 (.ixa 1 (.tmp 13) (.tmp 14)),
   oq 16 (.ld false 1 (.tmp 15)),
   oq 17 (.cv (.int .i64) (.tmp 16)),
   oq 18 (.bin .shl .num (.tmp 17) (.const (.int .u64 16))),
   oq 19 (.mv (.tmp 0)),
   oq 20 (.mv (.tmp 1)),
   oq 21 (.bin .add .num (.tmp 20) (.const (.int .i64 1))),
   oq 22 (.ixa 1 (.tmp 19) (.tmp 21)),
   oq 23 (.ld false 1 (.tmp 22)),
   oq 24 (.cv (.int .i64) (.tmp 23)),
   oq 25 (.bin .shl .num (.tmp 24) (.const (.int .u64 8))),
   oq 26 (.bin .or .num (.tmp 18) (.tmp 25)),
   oq 27 (.mv (.tmp 0)),
   oq 28 (.mv (.tmp 1)),
   oq 29 (.bin .add .num (.tmp 28) (.const (.int .i64 2))),
   oq 30 (.ixa 1 (.tmp 27) (.tmp 29)),
   oq 31 (.ld false 1 (.tmp 30)),
   oq 32 (.cv (.int .i64) (.tmp 31)),
   oq 33 (.bin .or .num (.tmp 26) (.tmp 32)),
   oq 5 (.mv (.tmp 33))])
 (.seq (.ops [oq 34 (.mv (.tmp 1)),
   oq 35 (.bin .add .num (.tmp 34) (.const (.int .i64 3))),
   oq 6 (.mv (.tmp 35))])
 (.seq (.seq (.ops [oq 36 (.mv (.tmp 5)),
   oq 37 (.bin .gtr .num (.tmp 36) (.const (.int .i64 20000))),
   oq 38 (.mv (.tmp 37)),
   og 39 38 false (.mv (.tmp 0)),
   og 40 38 false (.len false (.tmp 39)),
   og 41 38 false (.mv (.tmp 6)),
   og 42 38 false (.bin .sub .num (.tmp 40) (.tmp 41)),
   og 43 38 false (.mv (.tmp 5)),
   og 44 38 false (.bin .lss .num (.tmp 42) (.tmp 43)),
   oq 45 (.pick (.tmp 38) (.const (.bool true)) (.tmp 44))])
 (.cond (.tmp 45)
  (.seq (.ops [oq 46 (.bld [(.int .i64 0), (.int .i64 0)] []),
    on (.st 2 (.tmp 4) (.tmp 46))])
  (.ret))
  (.skip)))
 (.seq (.ops [oq 47 (.mv (.tmp 6)),
   oq 48 (.mv (.tmp 6)),
   oq 49 (.mv (.tmp 5)),
   oq 50 (.bin .add .num (.tmp 48) (.tmp 49)),
   oq 51 (.bld [(.int .i64 0), (.int .i64 0)] [(0, 1, (.tmp 47)), (1, 1, (.tmp 50))]),
   on (.st 2 (.tmp 4) (.tmp 51))])
 (.ret)))))), [(52, (4, (true, 2)))]⟩
theorem k_flNext : compF Tryz.prog 155 = some c_flNext := by kernel_rfl
theorem flNext_ok {W : World} {H : AHeap} {g : Nat} : ACalls Tryz.prog W 155 [.bs g 1 0, .v (.int .i64 0)] H fun v H' => v = .agg [.v (.int .i64 0), .v (.int .i64 0)] ∧ Kept (fun _ => False) H H' := by
 refine fn_run follows k_flNext rfl ?_
 simp only [oq, og, oe, oh, on, c_flNext, aretC_nil, List.zipIdx_cons, List.zipIdx_nil, List.map_cons, List.map_nil, Nat.zero_add]
 have w1 : IntKind.i64.wrap (0 - 0) = 0 := by decide
 (try simp +decide -implicitDefEqProofs only [go_sem, lay, oneOr, List.take_succ_cons, List.take_zero, List.drop_succ_cons, List.drop_zero, List.nil_append, List.cons_append, Option.getD_some, Nat.reduceAdd, Nat.reduceLeDiff, List.append_nil, and_self, List.all_cons, List.all_nil])
 rw [stk_alloc]
 intro b hb
 (try simp +decide -implicitDefEqProofs only [go_sem, w1, hp_self, hp_hp, lay, oneOr, List.take_succ_cons, List.take_zero, List.drop_succ_cons, List.drop_zero, List.nil_append, List.cons_append, Option.getD_some, Nat.reduceAdd, Nat.reduceLeDiff, List.append_nil, and_self, List.all_cons, List.all_nil])
 refine aretC_one (by (try simp +decide -implicitDefEqProofs only [go_sem, hp_self, lay, oneOr, List.take_succ_cons, List.take_zero, List.drop_succ_cons, List.drop_zero, List.nil_append, List.cons_append, Option.getD_some, Nat.reduceAdd, Nat.reduceLeDiff, List.append_nil, and_self, List.all_cons, List.all_nil])) ?_
 (try simp +decide -implicitDefEqProofs only [go_sem, hp_self, lay, oneOr, List.take_succ_cons, List.take_zero, List.drop_succ_cons, List.drop_zero, List.nil_append, List.cons_append, Option.getD_some, Nat.reduceAdd, Nat.reduceLeDiff, List.append_nil, and_self, List.all_cons, List.all_nil])
 exact ⟨.inr rfl, _, _, Sub.refl _, .refl _, rfl, Kept.new hb⟩
def c_flOpen : AFn := ⟨1, 46, [2, 3, 4],
 .seq (.ops [oq 2 (.mv (.const (.pointer none))),
   oq 3 (.mv (.const (.slice none 0 0))),
   oq 4 (.mv (.const (.int .i64 0)))])
 (.scope (.seq (.seq (.ops [oq 10 (.mv (.tmp 0)),
    oe 11 (.call 153 [(.tmp 10)])])
  (.cond (.tmp 11)
   (.seq (.ops [oq 2 (.mv (.const (.pointer none))),
     oq 3 (.mv (.const (.slice none 0 0))),
     oq 4 (.mv (.const (.int .i64 11)))])
   (.ret))
   (.skip)))
  (.seq (.ops [oq 12 (.mv (.tmp 0)),
    oe 13 (.call 154 [(.tmp 12)]),
    oq 5 (.mv (.tmp 13))])
  (.seq (.ops [oq 6 (.mv (.const (.slice none 0 0)))])
  (.seq (.ops [oq 7 (.mv (.const (.int .i64 0)))])
  (.seq (.label 0)
  (.seq (.block 0 (.loop (.block 1 (.seq (.ops [oq 14 (.mv (.tmp 5)),
            oq 15 (.mv (.tmp 7)),
            oe 16 (.call 155 [(.tmp 14), (.tmp 15)]),
            oe 8 (.alloc 197 [(.int .i64 0), (.int .i64 0)]),
            on (.st 2 (.tmp 8) (.tmp 16))])
     (.seq (.seq (.ops [oq 17 (.ld true 2 (.tmp 8)),
       oq 18 (.bld [(.int .i64 0), (.int .i64 0)] []),
       oq 19 (.bin .eql (.struct [0, 0]) (.tmp 17) (.tmp 18))])
     (.cond (.tmp 19)
      (.exit 0)
      (.skip)))
     (.seq (.ops [oq 20 (.mv (.tmp 6)),
       oq 21 (.mv (.tmp 5)),
       oq 22 (.fad 0 1 (.tmp 8)),
       oq 23 (.ld false 1 (.tmp 22)),
       oq 24 (.fad 1 1 (.tmp 8)),
       oq 25 (.ld false 1 (.tmp 24)),
       oq 26 (.lsl 1 (.tmp 21) (some (.tmp 23)) (some (.tmp 25)) none),
       oe 27 (.b2s (.tmp 26)),
       oe 28 (.bsl 9 1 [(.tmp 27)]),
       oe 29 (.app 9 1 16 false (.tmp 20) (.tmp 28)),
       oq 6 (.mv (.tmp 29))])
     (.ops [oq 30 (.fad 1 1 (.tmp 8)),
       oq 31 (.ld false 1 (.tmp 30)),
       oq 7 (.mv (.tmp 31))])))))))
  (.seq (.seq (.ops [oq 32 (.mv (.tmp 7)),
    oq 33 (.mv (.tmp 5)),
    oq 34 (.len false (.tmp 33)),
    oq 35 (.bin .lss .num (.tmp 32) (.tmp 34))])
  (.cond (.tmp 35)
   (.seq (.ops [oq 36 (.mv (.tmp 0)),
     oq 37 (.mv (.tmp 7)),
     oe 38 (.call 156 [(.tmp 36), (.tmp 37)]),
     oq 9 (.mv (.tmp 38))])
   (.seq (.ops [oq 39 (.mv (.tmp 9)),
     oq 40 (.bin .neq .num (.tmp 39) (.const (.int .i64 0)))])
   (.cond (.tmp 40)
    (.seq (.ops [oq 41 (.mv (.tmp 9)),
      oq 2 (.mv (.const (.pointer none))),
      oq 3 (.mv (.const (.slice none 0 0))),
      oq 4 (.mv (.tmp 41))])
    (.ret))
    (.skip))))
   (.skip)))
  (.seq (.ops [oq 42 (.mv (.tmp 0)),
    oq 43 (.bld [(.pointer none)] [(0, 1, (.tmp 42))]),
    oe 44 (.box 200 (.tmp 43)),
    oq 45 (.mv (.tmp 6)),
    oq 2 (.mv (.tmp 44)),
    oq 3 (.mv (.tmp 45)),
    oq 4 (.mv (.const (.int .i64 0)))])
  (.ret)))))))))), []⟩
theorem k_flOpen : compF Tryz.prog 122 = some c_flOpen := by kernel_rfl
set_option maxHeartbeats 1000000 in
theorem flOpen_ok {W : World} {H : AHeap} {d : Nat} {n : Int} (h : DevH H d (.v (.slice none 0 0)) [] n) : ACalls Tryz.prog W 122 [ptr d] H fun v H' => ∃ l, v = .tup [ptr l, .v (.slice none 0 0), .v (.int .i64 0)] ∧ H l = none ∧ H' l = some (.cells tLog [ptr d]) ∧ Kept (fun _ => False) H H' := by
 refine fn_run follows k_flOpen rfl ?_
 simp only [oq, og, oe, oh, on, c_flOpen, aretC_nil, List.zipIdx_cons, List.zipIdx_nil, List.map_cons, List.map_nil, Nat.zero_add]
 (try simp +decide -implicitDefEqProofs only [go_sem, lay, oneOr, List.take_succ_cons, List.take_zero, List.drop_succ_cons, List.drop_zero, List.nil_append, List.cons_append, Option.getD_some, Nat.reduceAdd, Nat.reduceLeDiff, List.append_nil, and_self, List.all_cons, List.all_nil])
 refine stk_call (devOff_ok h) fun v H' hv => ?_
 obtain ⟨rfl, rfl⟩ := hv
 (try simp +decide -implicitDefEqProofs only [go_sem, lay, oneOr, List.take_succ_cons, List.take_zero, List.drop_succ_cons, List.drop_zero, List.nil_append, List.cons_append, Option.getD_some, Nat.reduceAdd, Nat.reduceLeDiff, List.append_nil, and_self, List.all_cons, List.all_nil])
 refine stk_call (devBytes_ok h) fun v H1 hv => ?_
 obtain ⟨g, hgn, rfl, rfl⟩ := hv
 have hgn : H' g = none := hgn
 have hk : Kept (fun _ => False) H' (H'.put g (.buf tU8 1 [])) := Kept.new hgn
 have hse : steq [0, 0] (.agg [.v (.int .i64 0), .v (.int .i64 0)]) (.agg [.v (.int .i64 0), .v (.int .i64 0)]) = some true := by simp [steq, isAggA, aggA, flatEq, flat1]
 (try simp +decide -implicitDefEqProofs only [go_sem, List.length_nil, lay, oneOr, List.take_succ_cons, List.take_zero, List.drop_succ_cons, List.drop_zero, List.nil_append, List.cons_append, Option.getD_some, Nat.reduceAdd, Nat.reduceLeDiff, List.append_nil, and_self, List.all_cons, List.all_nil])
 generalize H'.put g (.buf tU8 1 []) = H1 at hk
 refine stk_loop (fun _ s => ∃ H2, Kept (fun _ => False) H' H2 ∧ s = ⟨[(7, .v (.int .i64 0)), (6, .v (.slice none 0 0)), (5, .bs g 1 0), (0, ptr d)], H2⟩) 0 ⟨[(7, .v (.int .i64 0)), (6, .v (.slice none 0 0)), (5, .bs g 1 0), (0, ptr d)], H1⟩ (Weak.list _ (Sub.refl _) (by (try simp +decide -implicitDefEqProofs only [go_sem]))) ⟨H1, hk, rfl⟩ ?_
 rintro m s1 ⟨H2, hk, rfl⟩
 (try simp +decide -implicitDefEqProofs only [go_sem, lay, oneOr, List.take_succ_cons, List.take_zero, List.drop_succ_cons, List.drop_zero, List.nil_append, List.cons_append, Option.getD_some, Nat.reduceAdd, Nat.reduceLeDiff, List.append_nil, and_self, List.all_cons, List.all_nil])
 refine stk_call flNext_ok fun v H3 hv => ?_
 obtain ⟨rfl, hk3⟩ := hv
 have hk3 := hk.trans hk3
 (try simp +decide -implicitDefEqProofs only [go_sem, lay, oneOr, List.take_succ_cons, List.take_zero, List.drop_succ_cons, List.drop_zero, List.nil_append, List.cons_append, Option.getD_some, Nat.reduceAdd, Nat.reduceLeDiff, List.append_nil, and_self, List.all_cons, List.all_nil])
 rw [stk_alloc]
 intro b hb
 have hk4 := hk3.trans (Kept.new (o := .cells 197 [.v (.int .i64 0), .v (.int .i64 0)]) hb)
 (try simp +decide -implicitDefEqProofs only [go_sem, hp_self, hp_hp, hse, Option.isSome_some, Option.getD_some, lay, oneOr, List.take_succ_cons, List.take_zero, List.drop_succ_cons, List.drop_zero, List.nil_append, List.cons_append, Option.getD_some, Nat.reduceAdd, Nat.reduceLeDiff, List.append_nil, and_self, List.all_cons, List.all_nil])
 rw [stk_box]
 refine ⟨by rfl, fun l hl => ?_⟩
 have hk5 := hk4.trans (Kept.new (o := .cells tLog [ptr d]) hl)
 (try simp +decide -implicitDefEqProofs only [go_sem, lay, oneOr, List.take_succ_cons, List.take_zero, List.drop_succ_cons, List.drop_zero, List.nil_append, List.cons_append, Option.getD_some, Nat.reduceAdd, Nat.reduceLeDiff, List.append_nil, and_self, List.all_cons, List.all_nil])
 refine ⟨.inr rfl, _, _, Sub.refl _, .refl _, l, rfl, ?_, hp_self _ _ _, hk5⟩
 cases e : H' l with
 | none => rfl
 | some o => have := hk4 _ _ e (fun h => h); rw [show (H3.put b _) l = none from hl] at this; cases this
theorem stk_appqS {P : Program} {W : World} {k : List Item} {Q : Exit → AState → Prop} {s : AState} {d : Option Nat} {E sz b : Nat} {st : Bool} {x y : Operand} {r : List AOper} {rows new : List (List AVal)} (hx : ev s.tm x = .sl true sz rows) (hs : srcOf s.H sz (ev s.tm y) = some new) (hne : new ≠ []) (hb : (rows.length + new.length) * b ≤ 140737488355328)
  (hK : ∀ g, s.H g = none → stk P W (.ops r :: k) Q .normal ((⟨s.tm, s.H.put g (.buf E sz (rows ++ new))⟩ : AState).put d (.bs g sz (rows.length + new.length)))) : stk P W (.ops (⟨d, none, .e (.appq E sz b st x y)⟩ :: r) :: k) Q .normal s := by
 show rops P W (⟨d, none, .e (.appq E sz b st x y)⟩ :: r) s _
 refine ⟨by rw [hx]; rfl, new, hs, fun e => absurd e hne, fun _ => ?_⟩
 rw [hx]
 exact ⟨⟨rfl, hb⟩, hK⟩
theorem naBytes_len (t : Str) : (bytesOf t).length = t.size := by unfold bytesOf; rw [List.length_map, Array.length_toList]; rfl
def c_flApp : AFn := ⟨2, 35, [4],
 .seq (.ops [oq 4 (.mv (.const (.int .i64 0)))])
 (.seq (.ops [oq 7 (.mv (.tmp 1)),
   oq 8 (.len true (.tmp 7)),
   oq 5 (.mv (.tmp 8))])
 (.seq (.seq (.ops [oq 9 (.mv (.tmp 5)),
   oq 10 (.bin .gtr .num (.tmp 9) (.const (.int .i64 20000)))])
 (.cond (.tmp 10)
  (.seq (.ops [oq 4 (.mv (.const (.int .i64 4)))])
  (.ret))
  (.skip)))
 (.seq (.seq (.ops [oq 11 (.mv (.tmp 0)),
   oq 12 (.nck (.tmp 11)),
   oq 13 (.fad 0 1 (.tmp 12)),
   oq 14 (.ld false 1 (.tmp 13)),
   oq 15 (.mv (.tmp 5)),
   oq 16 (.bin .shr .num (.tmp 15) (.const (.int .u64 16))),
   oq 17 (.cv (.int .u8) (.tmp 16)),
   oq 18 (.mv (.tmp 5)),
   oq 19 (.bin .shr .num (.tmp 18) (.const (.int .u64 8))),
   oq 20 (.cv (.int .u8) (.tmp 19)),
   oq 21 (.mv (.tmp 5)),
   oq 22 (.cv (.int .u8) (.tmp 21)),
   oq 24 (.mv (.tmp 1)),
   oe 23 (.bsl 5 1 [(.tmp 17), (.tmp 20), (.tmp 22)]),
   oe 25 (.appq 5 1 1 true (.tmp 23) (.tmp 24)),
   oe 26 (.call 186 [(.tmp 14), (.tmp 25)]),
   oq 6 (.mv (.tmp 26))])
 (.seq (.ops [oq 27 (.mv (.tmp 6)),
   oq 28 (.bin .neq .num (.tmp 27) (.const (.int .i64 0)))])
 (.cond (.tmp 28)
  (.seq (.ops [oq 29 (.mv (.tmp 6)),
    oq 4 (.mv (.tmp 29))])
  (.ret))
  (.skip))))
 (.seq (.ops [oq 30 (.mv (.tmp 0)),
   oq 31 (.nck (.tmp 30)),
   oq 32 (.fad 0 1 (.tmp 31)),
   oq 33 (.ld false 1 (.tmp 32)),
   oe 34 (.call 187 [(.tmp 33)]),
   oq 4 (.mv (.tmp 34))])
 (.ret))))), []⟩
theorem k_flApp : compF Tryz.prog 165 = some c_flApp := by kernel_rfl
set_option maxHeartbeats 1000000 in
theorem flApp_ok {W : World} {H : AHeap} {l d : Nat} {X : AVal} {rows : List (List AVal)} {n : Int} (hl : H l = some (.cells tLog [ptr d])) (h : DevH H d X rows n) (t : Str) (ht : 0 < t.size) :
  ACalls Tryz.prog W 165 [ptr l, .v (.string t)] H fun v H' => ∃ e X' rows' n', v = .v (.int .i64 e) ∧ DevH H' d X' rows' n' ∧ Kept (fun c => c = d ∨ blkOf X = some c) H H' ∧ (t.size ≤ 20000 → rows.length + (3 + t.size) ≤ 60000 → e = 0) := by
 refine fn_run follows k_flApp rfl ?_
 simp only [oq, og, oe, oh, on, c_flApp, aretC_nil, List.zipIdx_cons, List.zipIdx_nil, List.map_cons, List.map_nil, Nat.zero_add]
 by_cases hbig : 20000 < t.size
 ·have g1 : (20000 : Int) < (t.size : Int) := by omega
  (try simp +decide -implicitDefEqProofs only [go_sem, g1, lay, oneOr, List.take_succ_cons, List.take_zero, List.drop_succ_cons, List.drop_zero, List.nil_append, List.cons_append, Option.getD_some, Nat.reduceAdd, Nat.reduceLeDiff, List.append_nil, and_self, List.all_cons, List.all_nil])
  exact ⟨.inr rfl, _, _, Sub.refl _, .refl _, _, _, _, _, rfl, h, .refl _ _, fun e => by omega⟩
 ·have g1 : ¬ (20000 : Int) < (t.size : Int) := by omega
  (try simp +decide -implicitDefEqProofs only [go_sem, g1, hl, lay, oneOr, List.take_succ_cons, List.take_zero, List.drop_succ_cons, List.drop_zero, List.nil_append, List.cons_append, Option.getD_some, Nat.reduceAdd, Nat.reduceLeDiff, List.append_nil, and_self, List.all_cons, List.all_nil])
  have hbl := naBytes_len t
  refine stk_appqS (new := bytesOf t) rfl rfl (fun e => by rw [e] at hbl; simp at hbl; omega) (by rw [hbl]; simp only [List.length_cons, List.length_nil]; omega) fun g hg => ?_
  have hg : H g = none := hg
  rw [hbl]
  simp only [List.length_cons, List.length_nil]
  have hall : ∀ (a b c : AVal), ([[a], [b], [c]] ++ bytesOf t).length = 3 + t.size := fun a b c => by simp [hbl]; omega
  generalize IntKind.u8.wrap _ = z1
  generalize IntKind.u8.wrap _ = z2
  generalize IntKind.u8.wrap _ = z3
  have hlen := hall (.v (.int .u8 z1)) (.v (.int .u8 z2)) (.v (.int .u8 z3))
  generalize [[AVal.v (.int .u8 z1)], [AVal.v (.int .u8 z2)], [AVal.v (.int .u8 z3)]] ++ bytesOf t = new at hlen ⊢
  have hk1 : ∀ c o, H c = some o → (H.put g (.buf tU8 1 new)) c = some o := fun c o hc => Kept.new (bad := fun _ => False) hg c o hc (fun h => h)
  have hd1 := h.kept hk1
  have hap := devApp_ok (W := W) hd1 (put_self H g (.buf tU8 1 new)) (by omega)
  rw [hlen] at hap
  have hl1 := hk1 _ _ hl
  generalize H.put g (.buf tU8 1 new) = H1 at hk1 hd1 hap hl1 ⊢
  refine stk_call hap fun v H2 hv => ?_
  obtain ⟨e, X2, rows2, rfl, hd2, hk2, he⟩ := hv
  have hK2 : Kept (fun c => c = d ∨ blkOf X = some c) H H2 := fun c o hc hb => hk2 c o (hk1 c o hc) hb
  have hl2 : H2 l = some (.cells tLog [ptr d]) := hK2 _ _ hl (fun hh => by
   rcases hh with rfl | hh
   ·have := h.here; rw [hl] at this; cases this
   ·exact h.row.off hl (fun _ _ _ e => by cases e) hh)
  by_cases e0 : e = 0
  ·subst e0
   (try simp +decide -implicitDefEqProofs only [go_sem, hl2, ne_eq, not_true_eq_false, lay, oneOr, List.take_succ_cons, List.take_zero, List.drop_succ_cons, List.drop_zero, List.nil_append, List.cons_append, Option.getD_some, Nat.reduceAdd, Nat.reduceLeDiff, List.append_nil, and_self, List.all_cons, List.all_nil])
   refine stk_call (devSync_ok hd2) fun v H3 hv => ?_
   obtain ⟨rfl, rfl⟩ := hv
   (try simp +decide -implicitDefEqProofs only [go_sem, lay, oneOr, List.take_succ_cons, List.take_zero, List.drop_succ_cons, List.drop_zero, List.nil_append, List.cons_append, Option.getD_some, Nat.reduceAdd, Nat.reduceLeDiff, List.append_nil, and_self, List.all_cons, List.all_nil])
   refine ⟨.inr rfl, _, _, Sub.refl _, .refl _, 0, X2, rows2, rows2.length, rfl, ⟨put_self _ _ _, hd2.row.put (hd2.row.off hd2.here (fun _ _ _ e => by cases e)), hd2.few⟩, fun c o hc hb => (put_ne _ _ (fun e => hb (.inl e))).trans (hK2 c o hc hb), fun _ _ => rfl⟩
  ·have d0 : decide (¬ e = 0) = true := decide_eq_true e0
   (try simp +decide -implicitDefEqProofs only [go_sem, hl2, d0, ne_eq, lay, oneOr, List.take_succ_cons, List.take_zero, List.drop_succ_cons, List.drop_zero, List.nil_append, List.cons_append, Option.getD_some, Nat.reduceAdd, Nat.reduceLeDiff, List.append_nil, and_self, List.all_cons, List.all_nil])
   exact ⟨.inr rfl, _, _, Sub.refl _, .refl _, e, X2, rows2, n, rfl, hd2, hK2, fun h1 h2 => (he h2).1⟩
end Go.Proofs.YtfaodacmdlnabaaGreatDoor.M
