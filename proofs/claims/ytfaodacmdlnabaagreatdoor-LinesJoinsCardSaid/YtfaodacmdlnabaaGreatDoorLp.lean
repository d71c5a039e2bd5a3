/-
 Lines: a cluster of one node: walked, as far as a script is awake.
-/
import Derived.Test.YtfaodacmdlnabaaGreatDoorLk
import Derived.Test.YtfaodacmdlnabaaGreatDoorNd
namespace Go.Proofs.YtfaodacmdlnabaaGreatDoor.M
open Go.RowKit
set_option linter.unusedVariables false
set_option linter.unusedSimpArgs false
abbrev tClu : Nat := 90
abbrev nilP : AVal := .v (.pointer none)
/-- A cluster of one node that is up. -/
def cluCells (g d box tk : Nat) : List AVal := [.v (.int .i64 1), nilP, nilP, ptr d, ptr g, nilP, nilP, nilP, nilP, nilP, nilP, nilP, nilP, .v (.slice none 0 0), .v (.int .i64 0), .v (.int .i64 0), .v (.int .i64 0), .v (.int .i64 0), .v (.int .i64 0), .v (.int .i64 0), ptr box, .v (.map (some tk))]
def c_cIs : AFn := ⟨2, 15, [4],
 .seq (.ops [oq 4 (.mv (.const (.bool false)))])
 (.seq (.ops [oq 5 (.mv (.tmp 1)),
   oq 6 (.bin .geq .num (.tmp 5) (.const (.int .i64 1))),
   oq 7 (.mv (.tmp 6)),
   og 8 7 true (.mv (.tmp 1)),
   og 9 7 true (.mv (.tmp 0)),
   og 10 7 true (.nck (.tmp 9)),
   og 11 7 true (.fad 0 1 (.tmp 10)),
   og 12 7 true (.ld false 1 (.tmp 11)),
   og 13 7 true (.bin .leq .num (.tmp 8) (.tmp 12)),
   oq 14 (.pick (.tmp 7) (.tmp 13) (.const (.bool false))),
   oq 4 (.mv (.tmp 14))])
 (.ret)), []⟩
theorem k_cIs : compF Tryz.prog 90 = some c_cIs := by kernel_rfl
theorem cIs_ok {W : World} {H : AHeap} {c g d box tk : Nat} (h : H c = some (.cells tClu (cluCells g d box tk))) : ACalls Tryz.prog W 90 [ptr c, .v (.int .i64 1)] H fun v H' => v = .v (.bool true) ∧ H' = H := by
 unfold cluCells at h
 refine fn_run follows k_cIs rfl ?_
 simp only [oq, og, oe, oh, on, c_cIs, aretC_nil, List.zipIdx_cons, List.zipIdx_nil, List.map_cons, List.map_nil, Nat.zero_add]
 (try simp +decide -implicitDefEqProofs only [go_sem, h, lay, oneOr, List.take_succ_cons, List.take_zero, List.drop_succ_cons, List.drop_zero, List.nil_append, List.cons_append, Option.getD_some, Nat.reduceAdd, Nat.reduceLeDiff, List.append_nil, and_self, List.all_cons, List.all_nil])
 exact ⟨.inr rfl, _, _, Sub.refl _, .refl _, rfl, rfl⟩
def c_cUp : AFn := ⟨2, 27, [4, 5],
 .seq (.ops [oq 4 (.mv (.const (.pointer none))),
   oq 5 (.mv (.const (.int .i64 0)))])
 (.seq (.block 0 (.seq (.ops [oq 7 (.mv (.tmp 0)),
    oq 8 (.mv (.tmp 1)),
    oe 9 (.call 90 [(.tmp 7), (.tmp 8)]),
    oq 10 (.un .not (.tmp 9)),
    oq 6 (.mv (.tmp 10))])
  (.cond (.tmp 6)
   (.seq (.ops [oq 4 (.mv (.const (.pointer none))),
     oq 5 (.mv (.const (.int .i64 1)))])
   (.ret))
   (.seq (.ops [oq 12 (.mv (.tmp 0)),
     oq 13 (.mv (.tmp 1)),
     oq 14 (.nck (.tmp 12)),
     oq 15 (.fad 1 12 (.tmp 14)),
     oq 16 (.xad 6 2 (.tmp 15) (.tmp 13)),
     oq 17 (.fad 1 1 (.tmp 16)),
     oq 18 (.ld false 1 (.tmp 17)),
     oq 19 (.bin .eql .ptr (.tmp 18) (.const (.pointer none))),
     oq 11 (.mv (.tmp 19))])
   (.cond (.tmp 11)
    (.seq (.ops [oq 4 (.mv (.const (.pointer none))),
      oq 5 (.mv (.const (.int .i64 11)))])
    (.ret))
    (.skip))))))
 (.seq (.ops [oq 20 (.mv (.tmp 0)),
   oq 21 (.mv (.tmp 1)),
   oq 22 (.nck (.tmp 20)),
   oq 23 (.fad 1 12 (.tmp 22)),
   oq 24 (.xad 6 2 (.tmp 23) (.tmp 21)),
   oq 25 (.fad 1 1 (.tmp 24)),
   oq 26 (.ld false 1 (.tmp 25)),
   oq 4 (.mv (.tmp 26)),
   oq 5 (.mv (.const (.int .i64 0)))])
 (.ret))), []⟩
theorem k_cUp : compF Tryz.prog 81 = some c_cUp := by kernel_rfl
theorem cUp_ok {W : World} {H : AHeap} {c g d box tk : Nat} (h : H c = some (.cells tClu (cluCells g d box tk))) : ACalls Tryz.prog W 81 [ptr c, .v (.int .i64 1)] H fun v H' => v = .tup [ptr g, .v (.int .i64 0)] ∧ H' = H := by
 have hc := cIs_ok (W := W) h
 unfold cluCells at h
 refine fn_run follows k_cUp rfl ?_
 simp only [oq, og, oe, oh, on, c_cUp, aretC_nil, List.zipIdx_cons, List.zipIdx_nil, List.map_cons, List.map_nil, Nat.zero_add]
 (try simp +decide -implicitDefEqProofs only [go_sem, h, lay, oneOr, List.take_succ_cons, List.take_zero, List.drop_succ_cons, List.drop_zero, List.nil_append, List.cons_append, Option.getD_some, Nat.reduceAdd, Nat.reduceLeDiff, List.append_nil, and_self, List.all_cons, List.all_nil])
 refine stk_call hc fun v H' hv => ?_
 obtain ⟨rfl, rfl⟩ := hv
 (try simp +decide -implicitDefEqProofs only [go_sem, h, nilP, Int.toNat_one, Nat.reduceMul, lay, oneOr, List.take_succ_cons, List.take_zero, List.drop_succ_cons, List.drop_zero, List.nil_append, List.cons_append, Option.getD_some, Nat.reduceAdd, Nat.reduceLeDiff, List.append_nil, and_self, List.all_cons, List.all_nil])
 exact ⟨.inr rfl, _, _, Sub.refl _, .refl _, rfl, rfl⟩
end Go.Proofs.YtfaodacmdlnabaaGreatDoor.M
namespace Go.Proofs.YtfaodacmdlnabaaGreatDoor.M
open Go.RowKit
set_option linter.unusedVariables false
set_option linter.unusedSimpArgs false
theorem nIngestK_ok {W : World} {H : AHeap} {g : Nat} {me : Int} {s l d ps st does used : Nat} {pl : List (Str × Nat × AVal)} (h : Nod H g me s l d ps st does used pl) (id raw : Str) (hid : id.size ≤ maxLen) :
  ACalls Tryz.prog W 82 [ptr g, .v (.string id), .v (.string raw)] H fun v H' => ∃ e pl', v = .v (.int .i64 e) ∧ Nod H' g me s l d ps st does 60000 pl' ∧ KeptS d ps st H H' ∧ pl'.length ≤ pl.length + 1 ∧
   (mayE id raw pl = 0 → used + (5 + id.size + raw.size) ≤ 60000 → e = 0 ∧ ∃ c, pl' = pl ++ [(id, c, keptV id raw)]) := by
 have hg := h.here
 unfold nodeCells at hg
 refine fn_run follows k_nIngest rfl ?_
 simp only [oq, og, oe, oh, on, c_nIngest, aretC_nil, List.zipIdx_cons, List.zipIdx_nil, List.map_cons, List.map_nil, Nat.zero_add]
 (try simp +decide -implicitDefEqProofs only [go_sem, hg, lay, oneOr, List.take_succ_cons, List.take_zero, List.drop_succ_cons, List.drop_zero, List.nil_append, List.cons_append, Option.getD_some, Nat.reduceAdd, Nat.reduceLeDiff, List.append_nil, and_self, List.all_cons, List.all_nil])
 refine stk_call (stoPost_ok h.sto id raw hid) fun v H1 hv => ?_
 obtain ⟨e, pl', rfl, hs, hk, hl, he⟩ := hv
 (try simp +decide -implicitDefEqProofs only [go_sem, lay, oneOr, List.take_succ_cons, List.take_zero, List.drop_succ_cons, List.drop_zero, List.nil_append, List.cons_append, Option.getD_some, Nat.reduceAdd, Nat.reduceLeDiff, List.append_nil, and_self, List.all_cons, List.all_nil])
 exact ⟨.inr rfl, _, _, Sub.refl _, .refl _, e, pl', rfl, h.next hk hs, hk, hl, he⟩
theorem nOpenK_ok {W : World} {H : AHeap} {d : Nat} {n : Int} (h : DevH H d (.v (.slice none 0 0)) [] n) : ACalls Tryz.prog W 48 [.v (.int .i64 1), ptr d] H fun v H' => ∃ g s l ps st does, v = .tup [ptr g, .v (.int .i64 0)] ∧ Nod H' g 1 s l d ps st does 0 [] ∧ All H H' := by
 refine fn_run follows k_nOpen rfl ?_
 simp only [oq, og, oe, oh, on, c_nOpen, aretC_nil, List.zipIdx_cons, List.zipIdx_nil, List.map_cons, List.map_nil, Nat.zero_add]
 have d1 : decide ((1 : Int) < 1) = false := by decide
 have d2 : decide ((5 : Int) < 1) = false := by decide
 (try simp +decide -implicitDefEqProofs only [go_sem, d1, d2, lay, oneOr, List.take_succ_cons, List.take_zero, List.drop_succ_cons, List.drop_zero, List.nil_append, List.cons_append, Option.getD_some, Nat.reduceAdd, Nat.reduceLeDiff, List.append_nil, and_self, List.all_cons, List.all_nil])
 refine stk_call (stOpen_ok h) fun v H1 hv => ?_
 obtain ⟨s, l, ps, st, rfl, hs, hall⟩ := hv
 (try simp +decide -implicitDefEqProofs only [go_sem, ne_eq, not_true_eq_false, lay, oneOr, List.take_succ_cons, List.take_zero, List.drop_succ_cons, List.drop_zero, List.nil_append, List.cons_append, Option.getD_some, Nat.reduceAdd, Nat.reduceLeDiff, List.append_nil, and_self, List.all_cons, List.all_nil])
 intro does hdo
 have hdo : H1 does = none := hdo
 (try simp +decide -implicitDefEqProofs only [go_sem, lay, oneOr, List.take_succ_cons, List.take_zero, List.drop_succ_cons, List.drop_zero, List.nil_append, List.cons_append, Option.getD_some, Nat.reduceAdd, Nat.reduceLeDiff, List.append_nil, and_self, List.all_cons, List.all_nil])
 refine stk_up' (b := does) (c := 0) (l := []) rfl (put_self _ _ _) rfl rfl ?_
 (try simp +decide -implicitDefEqProofs only [go_sem, hp_hp, lay, oneOr, List.take_succ_cons, List.take_zero, List.drop_succ_cons, List.drop_zero, List.nil_append, List.cons_append, Option.getD_some, Nat.reduceAdd, Nat.reduceLeDiff, List.append_nil, and_self, List.all_cons, List.all_nil])
 refine stk_up' (b := does) (c := 1) (l := [(.int .i64 1, 0, .fn 78 [])]) rfl (put_self _ _ _) rfl rfl ?_
 (try simp +decide -implicitDefEqProofs only [go_sem, hp_hp, lay, oneOr, List.take_succ_cons, List.take_zero, List.drop_succ_cons, List.drop_zero, List.nil_append, List.cons_append, Option.getD_some, Nat.reduceAdd, Nat.reduceLeDiff, List.append_nil, and_self, List.all_cons, List.all_nil])
 refine stk_up' (b := does) (c := 2) (l := [(.int .i64 1, 0, .fn 78 []), (.int .i64 2, 1, .fn 79 [])]) rfl (put_self _ _ _) rfl rfl ?_
 (try simp +decide -implicitDefEqProofs only [go_sem, hp_hp, lay, oneOr, List.take_succ_cons, List.take_zero, List.drop_succ_cons, List.drop_zero, List.nil_append, List.cons_append, Option.getD_some, Nat.reduceAdd, Nat.reduceLeDiff, List.append_nil, and_self, List.all_cons, List.all_nil])
 rw [stk_box]
 refine ⟨by rfl, fun g hg => ?_⟩
 obtain ⟨hgd, hg1⟩ := put_none (show (H1.put does _) g = none from hg)
 have hall2 : All H1 ((H1.put does (.mp doesL 3)).put g (.cells tNode (nodeCells 1 s does))) := fun c o hc => by
  have c1 : c ≠ does := fun e => by rw [e, hdo] at hc; cases hc
  have c2 : c ≠ g := fun e => by rw [e, hg1] at hc; cases hc
  rw [put_ne _ _ c2, put_ne _ _ c1]; exact hc
 obtain ⟨pc, hp, _⟩ := hs.posts
 obtain ⟨sl, sc, hst⟩ := hs.stale
 have hnod : Nod ((H1.put does (.mp doesL 3)).put g (.cells tNode (nodeCells 1 s does))) g 1 s l d ps st does 0 [] :=
  ⟨put_self _ _ _, by rw [put_ne _ _ (Ne.symm hgd), put_self], hs.kept hall2, (fun e => by rw [e, hp] at hdo; cases hdo), (fun e => by rw [e, hst] at hdo; cases hdo)⟩
 have hall3 := hall.trans hall2
 show stk _ _ _ _ _ (AState.put ⟨_, (H1.put does (.mp doesL 3)).put g (.cells tNode (nodeCells 1 s does))⟩ _ _)
 generalize (H1.put does (.mp doesL 3)).put g (.cells tNode (nodeCells 1 s does)) = H2 at hnod hall3 ⊢
 (try simp +decide -implicitDefEqProofs only [go_sem, lay, oneOr, List.take_succ_cons, List.take_zero, List.drop_succ_cons, List.drop_zero, List.nil_append, List.cons_append, Option.getD_some, Nat.reduceAdd, Nat.reduceLeDiff, List.append_nil, and_self, List.all_cons, List.all_nil])
 exact ⟨.inr rfl, _, _, Sub.refl _, .refl _, g, s, l, ps, st, does, rfl, hnod, hall3⟩
def c_mailNew : AFn := ⟨0, 3, [0],
 .seq (.ops [oq 0 (.mv (.const (.pointer none)))])
 (.seq (.ops [oq 1 (.bld [(.slice none 0 0)] []),
   oe 2 (.box 110 (.tmp 1)),
   oq 0 (.mv (.tmp 2))])
 (.ret)), []⟩
theorem k_mailNew : compF Tryz.prog 46 = some c_mailNew := by kernel_rfl
theorem mailNew_ok {W : World} {H : AHeap} : ACalls Tryz.prog W 46 [] H fun v H' => ∃ b, H b = none ∧ v = ptr b ∧ H' = H.put b (.cells 110 [.v (.slice none 0 0)]) := by
 refine fn_run follows k_mailNew rfl ?_
 simp only [oq, og, oe, oh, on, c_mailNew, aretC_nil, List.zipIdx_cons, List.zipIdx_nil, List.map_cons, List.map_nil, Nat.zero_add]
 (try simp +decide -implicitDefEqProofs only [go_sem, lay, oneOr, List.take_succ_cons, List.take_zero, List.drop_succ_cons, List.drop_zero, List.nil_append, List.cons_append, Option.getD_some, Nat.reduceAdd, Nat.reduceLeDiff, List.append_nil, and_self, List.all_cons, List.all_nil])
 rw [stk_box]
 refine ⟨by rfl, fun b hb => ?_⟩
 (try simp +decide -implicitDefEqProofs only [go_sem, lay, oneOr, List.take_succ_cons, List.take_zero, List.drop_succ_cons, List.drop_zero, List.nil_append, List.cons_append, Option.getD_some, Nat.reduceAdd, Nat.reduceLeDiff, List.append_nil, and_self, List.all_cons, List.all_nil])
 exact ⟨.inr rfl, _, _, Sub.refl _, .refl _, b, hb, rfl, rfl⟩
def c_stServe : AFn := ⟨2, 29, [4, 5],
 .seq (.ops [oq 4 (.mv (.const (.string ByteArray.empty))),
   oq 5 (.mv (.const (.int .i64 0)))])
 (.seq (.ops [oq 9 (.mv (.tmp 0)),
   oq 10 (.nck (.tmp 9)),
   oq 11 (.fad 1 1 (.tmp 10)),
   oq 12 (.ld false 1 (.tmp 11)),
   oq 13 (.mv (.tmp 1)),
   oq 14 (.lk none true (.agg #[(.string ByteArray.empty), (.string ByteArray.empty), (.int .i64 0), (.string ByteArray.empty)]) (.tmp 12) (.tmp 13)),
   oq 8 (.mv (.tmp 14)),
   oq 15 (.ext (.tmp 8) 0),
   oq 16 (.ext (.tmp 8) 1),
   oe 6 (.alloc 165 [(.string ByteArray.empty), (.string ByteArray.empty), (.int .i64 0), (.string ByteArray.empty)]),
   on (.st 4 (.tmp 6) (.tmp 15)),
   oq 7 (.mv (.tmp 16))])
 (.seq (.block 0 (.seq (.ops [oq 18 (.mv (.tmp 7)),
    oq 19 (.un .not (.tmp 18)),
    oq 17 (.mv (.tmp 19))])
  (.cond (.tmp 17)
   (.seq (.ops [oq 4 (.mv (.const (.string ByteArray.empty))),
     oq 5 (.mv (.const (.int .i64 8)))])
   (.ret))
   (.seq (.ops [oq 21 (.mv (.tmp 0)),
     oq 22 (.nck (.tmp 21)),
     oq 23 (.fad 2 1 (.tmp 22)),
     oq 24 (.ld false 1 (.tmp 23)),
     oq 25 (.mv (.tmp 1)),
     oq 26 (.lk none false (.bool false) (.tmp 24) (.tmp 25)),
     oq 20 (.mv (.tmp 26))])
   (.cond (.tmp 20)
    (.seq (.ops [oq 4 (.mv (.const (.string ByteArray.empty))),
      oq 5 (.mv (.const (.int .i64 12)))])
    (.ret))
    (.skip))))))
 (.seq (.ops [oq 27 (.fad 3 1 (.tmp 6)),
   oq 28 (.ld false 1 (.tmp 27)),
   oq 4 (.mv (.tmp 28)),
   oq 5 (.mv (.const (.int .i64 0)))])
 (.ret)))), []⟩
theorem k_stServe : compF Tryz.prog 131 = some c_stServe := by kernel_rfl
/-- What was posted waits. -/
theorem stServe_ok {W : World} {H : AHeap} {s l d ps st used : Nat} {pl : List (Str × Nat × AVal)} (h : Sto H s l d ps st used pl) (id : Str) (hin : (sget id pl).isSome = true) : ACalls Tryz.prog W 131 [ptr s, .v (.string id)] H fun v H' => v = .tup [.v (.string ByteArray.empty), .v (.int .i64 12)] ∧ All H H' := by
 have hg := h.here
 unfold stoCells at hg
 obtain ⟨pc, hp, hn⟩ := h.posts
 obtain ⟨sl, sc, hs, hw⟩ := h.wait
 obtain ⟨v0, hv0⟩ := Option.isSome_iff_exists.1 hin
 obtain ⟨e', he, h1, h2⟩ := sget_mem hv0
 have hwe := hw e' he
 rw [h1] at hwe
 obtain ⟨raw, h3, _⟩ := h.kv e' he
 rw [h2] at h3
 have k0 : kOk none (.string id) = true := rfl
 have hz : zeroA (.agg #[.string ByteArray.empty, .string ByteArray.empty, .int .i64 0, .string ByteArray.empty]) = keptZ := rfl
 have hq : (sget id pl).getD keptZ = .agg [.v (.string e'.1), .v (.string raw), .v (.int .i64 0), .v (.string ByteArray.empty)] := by rw [hv0, h3]; rfl
 refine fn_run follows k_stServe rfl ?_
 simp only [oq, og, oe, oh, on, c_stServe, aretC_nil, List.zipIdx_cons, List.zipIdx_nil, List.map_cons, List.map_nil, Nat.zero_add]
 (try simp +decide -implicitDefEqProofs only [go_sem, hg, hp, smap_ok, mget_smap, hz, hq, k0, lay, oneOr, List.take_succ_cons, List.take_zero, List.drop_succ_cons, List.drop_zero, List.nil_append, List.cons_append, Option.getD_some, Nat.reduceAdd, Nat.reduceLeDiff, List.append_nil, and_self, List.all_cons, List.all_nil])
 rw [stk_alloc]
 intro x hx
 have hx : H x = none := hx
 have hk1 := All.new (o := .cells 165 [.v (.string e'.1), .v (.string raw), .v (.int .i64 0), .v (.string ByteArray.empty)]) hx
 have hg1 := hk1 _ _ hg
 have hs1 := hk1 _ _ hs
 (try simp +decide -implicitDefEqProofs only [go_sem, hp_self, hp_hp, hin, hg1, hs1, smap_ok, mget_smap, hwe, k0, lay, oneOr, List.take_succ_cons, List.take_zero, List.drop_succ_cons, List.drop_zero, List.nil_append, List.cons_append, Option.getD_some, Nat.reduceAdd, Nat.reduceLeDiff, List.append_nil, and_self, List.all_cons, List.all_nil])
 exact ⟨.inr rfl, _, _, Sub.refl _, .refl _, rfl, hk1⟩
def c_nServe : AFn := ⟨2, 14, [4, 5],
 .seq (.ops [oq 4 (.mv (.const (.string ByteArray.empty))),
   oq 5 (.mv (.const (.int .i64 0)))])
 (.seq (.ops [oq 6 (.mv (.tmp 0)),
   oq 7 (.nck (.tmp 6)),
   oq 8 (.fad 1 1 (.tmp 7)),
   oq 9 (.ld false 1 (.tmp 8)),
   oq 10 (.mv (.tmp 1)),
   oe 11 (.call 131 [(.tmp 9), (.tmp 10)]),
   oq 12 (.ext (.tmp 11) 0),
   oq 13 (.ext (.tmp 11) 1),
   oq 4 (.mv (.tmp 12)),
   oq 5 (.mv (.tmp 13))])
 (.ret)), []⟩
theorem k_nServe : compF Tryz.prog 83 = some c_nServe := by kernel_rfl
theorem nServe_ok {W : World} {H : AHeap} {g : Nat} {me : Int} {s l d ps st does used : Nat} {pl : List (Str × Nat × AVal)} (h : Nod H g me s l d ps st does used pl) (id : Str) (hin : (sget id pl).isSome = true) : ACalls Tryz.prog W 83 [ptr g, .v (.string id)] H fun v H' => v = .tup [.v (.string ByteArray.empty), .v (.int .i64 12)] ∧ All H H' := by
 have hg := h.here
 unfold nodeCells at hg
 refine fn_run follows k_nServe rfl ?_
 simp only [oq, og, oe, oh, on, c_nServe, aretC_nil, List.zipIdx_cons, List.zipIdx_nil, List.map_cons, List.map_nil, Nat.zero_add]
 (try simp +decide -implicitDefEqProofs only [go_sem, hg, lay, oneOr, List.take_succ_cons, List.take_zero, List.drop_succ_cons, List.drop_zero, List.nil_append, List.cons_append, Option.getD_some, Nat.reduceAdd, Nat.reduceLeDiff, List.append_nil, and_self, List.all_cons, List.all_nil])
 refine stk_call (stServe_ok h.sto id hin) fun v H1 hv => ?_
 obtain ⟨rfl, hk⟩ := hv
 (try simp +decide -implicitDefEqProofs only [go_sem, lay, oneOr, List.take_succ_cons, List.take_zero, List.drop_succ_cons, List.drop_zero, List.nil_append, List.cons_append, Option.getD_some, Nat.reduceAdd, Nat.reduceLeDiff, List.append_nil, and_self, List.all_cons, List.all_nil])
 exact ⟨.inr rfl, _, _, Sub.refl _, .refl _, rfl, hk⟩
end Go.Proofs.YtfaodacmdlnabaaGreatDoor.M
namespace Go.Proofs.YtfaodacmdlnabaaGreatDoor.M
open Go.RowKit
set_option linter.unusedVariables false
set_option linter.unusedSimpArgs false
structure Clu (H : AHeap) (c g s l d ps st does box tk used : Nat) (pl taken : List (Str × Nat × AVal)) : Prop where
 here : H c = some (.cells tClu (cluCells g d box tk))
 nod : Nod H g 1 s l d ps st does used pl
 took : ∃ n, H tk = some (.mp (smap taken) n)
 ne1 : tk ≠ ps
 ne2 : tk ≠ st
abbrev clu0 (box tk : Nat) : List AVal := [.v (.int .i64 1), nilP, nilP, nilP, nilP, nilP, nilP, nilP, nilP, nilP, nilP, nilP, nilP, .v (.slice none 0 0), .v (.int .i64 0), .v (.int .i64 0), .v (.int .i64 0), .v (.int .i64 0), .v (.int .i64 0), .v (.int .i64 0), ptr box, .v (.map (some tk))]
/-- What a node owns stays, where a cluster's cells change. -/
theorem Nod.keptC {H H' : AHeap} {g : Nat} {me : Int} {s l d ps st does used : Nat} {pl : List (Str × Nat × AVal)} (h : Nod H g me s l d ps st does used pl) (hk : ∀ c o, (∀ cs, o ≠ .cells tClu cs) → H c = some o → H' c = some o) : Nod H' g me s l d ps st does used pl := by
 obtain ⟨h1, h2, h3, h4, h5⟩ := h
 obtain ⟨X, rows, n, hd, hu⟩ := h3.dev
 obtain ⟨pc, hp, hn⟩ := h3.posts
 obtain ⟨sl, sc, hs⟩ := h3.stale
 obtain ⟨wl, wc, hw1, hw2⟩ := h3.wait
 have hd' : DevH H' d X rows n := ⟨hk _ _ (fun _ e => by cases e) hd.here, hd.row.keep fun b o hb ho => by
  refine hk _ _ (fun cs e => ?_) ho
  subst e
  exact (hd.row.off ho (fun _ _ _ e => by cases e)) hb, hd.few⟩
 exact ⟨hk _ _ (fun _ e => by cases e) h1, hk _ _ (fun _ e => by cases e) h2, ⟨hk _ _ (fun _ e => by cases e) h3.here, hk _ _ (fun _ e => by cases e) h3.log, ⟨X, rows, n, hd', hu⟩, ⟨pc, hk _ _ (fun _ e => by cases e) hp, hn⟩, ⟨sl, sc, hk _ _ (fun _ e => by cases e) hs⟩, h3.few, h3.kv, h3.ne, wl, wc, hk _ _ (fun _ e => by cases e) hw1, hw2⟩, h4, h5⟩
def c_cNew : AFn := ⟨1, 44, [2, 3],
 .seq (.ops [oq 2 (.mv (.const (.pointer none))),
   oq 3 (.mv (.const (.int .i64 0)))])
 (.seq (.seq (.ops [oq 9 (.mv (.tmp 0)),
   oq 10 (.bin .lss .num (.tmp 9) (.const (.int .i64 1))),
   oq 11 (.mv (.tmp 10)),
   og 12 11 false (.mv (.tmp 0)),
   og 13 11 false (.bin .gtr .num (.tmp 12) (.const (.int .i64 5))),
   oq 14 (.pick (.tmp 11) (.const (.bool true)) (.tmp 13))])
 (.cond (.tmp 14)
  (.seq (.ops [oq 2 (.mv (.const (.pointer none))),
    oq 3 (.mv (.const (.int .i64 1)))])
  (.ret))
  (.skip)))
 (.seq (.ops [oq 15 (.mv (.tmp 0)),
   oe 16 (.call 46 []),
   oe 17 (.mk),
   oq 18 (.bld [(.int .i64 0), (.pointer none), (.pointer none), (.pointer none), (.pointer none), (.pointer none), (.pointer none), (.pointer none), (.pointer none), (.pointer none), (.pointer none), (.pointer none), (.pointer none), (.slice none 0 0), (.int .i64 0), (.int .i64 0), (.int .i64 0), (.int .i64 0), (.int .i64 0), (.int .i64 0), (.pointer none), (.map none)] [(0, 1, (.tmp 15)), (20, 1, (.tmp 16)), (21, 1, (.tmp 17))]),
   oe 19 (.box 90 (.tmp 18)),
   oq 4 (.mv (.tmp 19))])
 (.seq (.seq (.ops [oq 5 (.mv (.const (.int .i64 1)))])
 (.block 0 (.loop (.seq (.seq (.ops [oq 20 (.mv (.tmp 5)),
     oq 21 (.mv (.tmp 0)),
     oq 22 (.bin .leq .num (.tmp 20) (.tmp 21))])
   (.cond (.tmp 22)
    (.skip)
    (.exit 0)))
   (.seq (.block 1 (.seq (.ops [oe 25 (.call 47 []),
      oq 6 (.mv (.tmp 25))])
    (.seq (.ops [oq 27 (.mv (.tmp 5)),
      oq 28 (.mv (.tmp 6)),
      oe 29 (.call 48 [(.tmp 27), (.tmp 28)]),
      oq 26 (.mv (.tmp 29)),
      oq 30 (.ext (.tmp 26) 0),
      oq 31 (.ext (.tmp 26) 1),
      oq 7 (.mv (.tmp 30)),
      oq 8 (.mv (.tmp 31))])
    (.seq (.seq (.ops [oq 32 (.mv (.tmp 8)),
      oq 33 (.bin .neq .num (.tmp 32) (.const (.int .i64 0)))])
    (.cond (.tmp 33)
     (.seq (.ops [oq 34 (.mv (.tmp 8)),
       oq 2 (.mv (.const (.pointer none))),
       oq 3 (.mv (.tmp 34))])
     (.ret))
     (.skip)))
    (.ops [oq 35 (.mv (.tmp 4)),
      oq 36 (.mv (.tmp 5)),
      oq 37 (.mv (.tmp 6)),
      oq 38 (.mv (.tmp 7)),
      oq 39 (.bld [(.pointer none), (.pointer none)] [(0, 1, (.tmp 37)), (1, 1, (.tmp 38))]),
      oq 40 (.nck (.tmp 35)),
      oq 41 (.fad 1 12 (.tmp 40)),
      oq 42 (.xad 6 2 (.tmp 41) (.tmp 36)),
      on (.st 2 (.tmp 42) (.tmp 39))])))))
   (.ops [oq 23 (.mv (.tmp 5)),
     oq 24 (.bin .add .num (.tmp 23) (.const (.int .i64 1))),
     oq 5 (.mv (.tmp 24))]))))))
 (.seq (.ops [oq 43 (.mv (.tmp 4)),
   oq 2 (.mv (.tmp 43)),
   oq 3 (.mv (.const (.int .i64 0)))])
 (.ret))))), []⟩
theorem k_cNew : compF Tryz.prog 25 = some c_cNew := by kernel_rfl
set_option maxHeartbeats 4000000 in
theorem cNew_ok {W : World} : ACalls Tryz.prog W 25 [.v (.int .i64 1)] AHeap.none fun v H' => ∃ c g s l d ps st does box tk, v = .tup [ptr c, .v (.int .i64 0)] ∧ Clu H' c g s l d ps st does box tk 0 [] [] := by
 refine fn_run follows k_cNew rfl ?_
 simp only [oq, og, oe, oh, on, c_cNew, aretC_nil, List.zipIdx_cons, List.zipIdx_nil, List.map_cons, List.map_nil, Nat.zero_add]
 have d1 : decide ((1 : Int) < 1) = false := by decide
 have d2 : decide ((1 : Int) > 5) = false := by decide
 (try simp +decide -implicitDefEqProofs only [go_sem, d1, d2, lay, oneOr, List.take_succ_cons, List.take_zero, List.drop_succ_cons, List.drop_zero, List.nil_append, List.cons_append, Option.getD_some, Nat.reduceAdd, Nat.reduceLeDiff, List.append_nil, and_self, List.all_cons, List.all_nil])
 refine stk_call mailNew_ok fun v H1 hv => ?_
 obtain ⟨box, hb0, rfl, rfl⟩ := hv
 (try simp +decide -implicitDefEqProofs only [go_sem, lay, oneOr, List.take_succ_cons, List.take_zero, List.drop_succ_cons, List.drop_zero, List.nil_append, List.cons_append, Option.getD_some, Nat.reduceAdd, Nat.reduceLeDiff, List.append_nil, and_self, List.all_cons, List.all_nil])
 intro tk htk
 (try simp +decide -implicitDefEqProofs only [go_sem, nilP, lay, oneOr, List.take_succ_cons, List.take_zero, List.drop_succ_cons, List.drop_zero, List.nil_append, List.cons_append, Option.getD_some, Nat.reduceAdd, Nat.reduceLeDiff, List.append_nil, and_self, List.all_cons, List.all_nil])
 rw [stk_box]
 refine ⟨by rfl, fun c hc => ?_⟩
 have hc : ((AHeap.none.put box (.cells 110 [.v (.slice none 0 0)])).put tk (.mp [] 0)) c = none := hc
 have hct : c ≠ tk := fun e => by rw [e, put_self] at hc; cases hc
 show stk _ _ _ _ _ (AState.put ⟨_, (((AHeap.none.put box (.cells 110 [.v (.slice none 0 0)])).put tk (.mp [] 0)).put c (.cells tClu (clu0 box tk)))⟩ _ _)
 have hC : (((AHeap.none.put box (.cells 110 [.v (.slice none 0 0)])).put tk (.mp [] 0)).put c (.cells tClu (clu0 box tk))) c = some (.cells tClu (clu0 box tk)) := put_self _ _ _
 have hT : (((AHeap.none.put box (.cells 110 [.v (.slice none 0 0)])).put tk (.mp [] 0)).put c (.cells tClu (clu0 box tk))) tk = some (.mp [] 0) := by rw [put_ne _ _ (Ne.symm hct), put_self]
 generalize (((AHeap.none.put box (.cells 110 [.v (.slice none 0 0)])).put tk (.mp [] 0)).put c (.cells tClu (clu0 box tk))) = H0 at hC hT ⊢
 (try simp +decide -implicitDefEqProofs only [go_sem, lay, oneOr, List.take_succ_cons, List.take_zero, List.drop_succ_cons, List.drop_zero, List.nil_append, List.cons_append, Option.getD_some, Nat.reduceAdd, Nat.reduceLeDiff, List.append_nil, and_self, List.all_cons, List.all_nil])
 refine stk_up (α := AHeap) 1 (fun i H => ⟨[(5, .v (.int .i64 ((i : Int) + 1))), (4, ptr c), (0, .v (.int .i64 1))], H⟩) (fun i H => (i = 0 → H = H0) ∧ (i = 1 → ∃ g s l d ps st does, Clu H c g s l d ps st does box tk 0 [] [])) H0 (Weak.list _ (Sub.refl _) (by (try simp +decide -implicitDefEqProofs only [go_sem]); first | done | exact FZ.refl _ | exact ⟨FZ.refl _, FZ.refl _⟩)) ⟨fun _ => rfl, fun h => by cases h⟩ ?_
 rintro i H hi ⟨hJ0, hJ1⟩
 by_cases hlt : i < 1
 ·obtain rfl : i = 0 := by omega
  obtain rfl := hJ0 rfl
  (try simp +decide -implicitDefEqProofs only [go_sem, lay, oneOr, List.take_succ_cons, List.take_zero, List.drop_succ_cons, List.drop_zero, List.nil_append, List.cons_append, Option.getD_some, Nat.reduceAdd, Nat.reduceLeDiff, List.append_nil, and_self, List.all_cons, List.all_nil])
  refine stk_call devNew_ok fun v H1 hv => ?_
  obtain ⟨d, hd0, rfl, rfl⟩ := hv
  have hall := All.new (o := .cells tDev (devCells (.v (.slice none 0 0)) 0)) hd0
  have hC1 := hall _ _ hC
  have hT1 := hall _ _ hT
  have hdev : DevH (H.put d (.cells tDev (devCells (.v (.slice none 0 0)) 0))) d (.v (.slice none 0 0)) [] 0 := ⟨put_self _ _ _, .nil, by simp⟩
  generalize H.put d (.cells tDev (devCells (.v (.slice none 0 0)) 0)) = H2 at hC1 hT1 hdev ⊢
  (try simp +decide -implicitDefEqProofs only [go_sem, lay, oneOr, List.take_succ_cons, List.take_zero, List.drop_succ_cons, List.drop_zero, List.nil_append, List.cons_append, Option.getD_some, Nat.reduceAdd, Nat.reduceLeDiff, List.append_nil, and_self, List.all_cons, List.all_nil])
  have hA : DevH (AHeap.none.put d (.cells tDev (devCells (.v (.slice none 0 0)) 0))) d (.v (.slice none 0 0)) [] 0 := ⟨put_self _ _ _, .nil, by simp⟩
  have hsA : Sub (AHeap.none.put d (.cells tDev (devCells (.v (.slice none 0 0)) 0))) H2 := fun x o hx => by
   by_cases e : x = d
   ·subst e; rw [put_self] at hx; cases hx; exact hdev.here
   ·rw [put_ne _ _ e] at hx; cases hx
  refine stk_call (ACalls.part hsA (nOpenK_ok hA)) fun v H3 hv => ?_
  obtain ⟨A3, ⟨g, s, l, ps, st, does, rfl, hnodA, -⟩, hA3, hB3⟩ := hv
  have hcd : c ≠ d := fun e => by rw [e, hdev.here] at hC1; cases hC1
  have htd : tk ≠ d := fun e => by rw [e, hdev.here] at hT1; cases hT1
  obtain ⟨hB4, hB5⟩ := hB3 (fun x => if x = d then none else H2 x) (fun x o hx => by
   by_cases e : x = d
   ·simp [e] at hx
   ·simpa [e] using hx) (fun x hx => by
   by_cases e : x = d
   ·simp [e]
   ·rw [put_ne _ _ e] at hx; exact absurd rfl hx)
  have hnod := hnodA.all hA3
  have hC3 : H3 c = some (.cells tClu (clu0 box tk)) := hB4 c _ (by show (if c = d then none else H2 c) = _; rw [if_neg hcd]; exact hC1)
  have hT3 : H3 tk = some (.mp [] 0) := hB4 tk _ (by show (if tk = d then none else H2 tk) = _; rw [if_neg htd]; exact hT1)
  have hfar : A3 tk = none := by
   cases e : A3 tk with
   | none => rfl
   | some o => have := hB5 tk (by rw [e]; exact fun h => by cases h); dsimp only at this; rw [if_neg htd, hT1] at this; cases this
  have d0 : decide ((0 : Int) ≠ 0) = false := by decide
  (try simp +decide -implicitDefEqProofs only [go_sem, d0, hC3, nilP, Int.toNat_one, Nat.reduceMul, lay, oneOr, List.take_succ_cons, List.take_zero, List.drop_succ_cons, List.drop_zero, List.nil_append, List.cons_append, Option.getD_some, Nat.reduceAdd, Nat.reduceLeDiff, List.append_nil, and_self, List.all_cons, List.all_nil])
  have hput : ∀ o o2, (∀ cs, o ≠ .cells tClu cs) → ∀ x, H3 x = some o → (H3.put c o2) x = some o := fun o o2 ho x hx => by
   rw [put_ne _ _ (fun e => by rw [e, hC3] at hx; cases hx; exact ho _ rfl)]; exact hx
  have hne1 : tk ≠ ps := fun e => by
   obtain ⟨pc, hp, _⟩ := hnodA.sto.posts
   rw [← e, hfar] at hp; cases hp
  have hne2 : tk ≠ st := fun e => by
   obtain ⟨sl, sc, hp⟩ := hnodA.sto.stale
   rw [← e, hfar] at hp; cases hp
  refine ⟨H3.put c (.cells tClu (cluCells g d box tk)), Weak.list _ (Sub.refl _) (by (try simp +decide -implicitDefEqProofs only [go_sem]); first | done | exact FZ.refl _ | exact ⟨FZ.refl _, FZ.refl _⟩), fun _ => ⟨g, s, l, d, ps, st, does, put_self _ _ _, hnod.keptC (fun x o ho hx => hput o _ ho x hx), ⟨0, hput _ _ (fun _ e => by cases e) _ hT3⟩, hne1, hne2⟩⟩
 ·obtain rfl : i = 1 := by omega
  obtain ⟨g, s, l, d, ps, st, does, hclu⟩ := hJ1 rfl
  (try simp +decide -implicitDefEqProofs only [go_sem, lay, oneOr, List.take_succ_cons, List.take_zero, List.drop_succ_cons, List.drop_zero, List.nil_append, List.cons_append, Option.getD_some, Nat.reduceAdd, Nat.reduceLeDiff, List.append_nil, and_self, List.all_cons, List.all_nil])
  exact ⟨.inr rfl, _, _, Sub.refl _, .refl _, c, g, s, l, d, ps, st, does, box, tk, rfl, hclu⟩
end Go.Proofs.YtfaodacmdlnabaaGreatDoor.M
namespace Go.Proofs.YtfaodacmdlnabaaGreatDoor.M
open Go.RowKit
set_option linter.unusedVariables false
set_option linter.unusedSimpArgs false
theorem Clu.all {H H' : AHeap} {c g s l d ps st does box tk used : Nat} {pl taken : List (Str × Nat × AVal)} (h : Clu H c g s l d ps st does box tk used pl taken) (hk : ∀ c o, H c = some o → H' c = some o) : Clu H' c g s l d ps st does box tk used pl taken := by
 obtain ⟨n, hn⟩ := h.took
 exact ⟨hk _ _ h.here, h.nod.all hk, ⟨n, hk _ _ hn⟩, h.ne1, h.ne2⟩
theorem put_all {H : AHeap} {b : Nat} {o : AObj} (hb : H b = none) : ∀ x y, H x = some y → (H.put b o) x = some y := fun x y hx => by
 rw [put_ne _ _ (fun e => by rw [e, hb] at hx; cases hx)]; exact hx
theorem Clu.tookput {H : AHeap} {c g s l d ps st does box tk used : Nat} {pl taken : List (Str × Nat × AVal)} (h : Clu H c g s l d ps st does box tk used pl taken) (t2 : List (Str × Nat × AVal)) (n2 : Nat) : Clu (H.put tk (.mp (smap t2) n2)) c g s l d ps st does box tk used pl t2 := by
 obtain ⟨h0, ⟨h1, h2, h3, h4, h5⟩, ⟨tn, ht⟩, e1, e2⟩ := h
 have hk : ∀ y o, y ≠ tk → H y = some o → (H.put tk (.mp (smap t2) n2)) y = some o := fun y o hy ho => by rw [put_ne _ _ hy]; exact ho
 have hce : ∀ y E cs, H y = some (.cells E cs) → (H.put tk (.mp (smap t2) n2)) y = some (.cells E cs) := fun y E cs ho => hk y _ (fun e => by rw [e, ht] at ho; cases ho) ho
 have hdoes : does ≠ tk := fun e => by
  rw [e, ht] at h2
  simp only [Option.some.injEq, AObj.mp.injEq] at h2
  have h6 := h2.1
  unfold doesL at h6
  cases taken with
  | nil => cases h6
  | cons a r => simp [smap] at h6
 obtain ⟨X, rows, n, hd, hu⟩ := h3.dev
 obtain ⟨pc, hp, hn⟩ := h3.posts
 obtain ⟨sl, sc, hs⟩ := h3.stale
 obtain ⟨wl, wc, hw1, hw2⟩ := h3.wait
 have hd' : DevH (H.put tk (.mp (smap t2) n2)) d X rows n := ⟨hce _ _ _ hd.here, hd.row.keep fun b o hb ho => by
  refine hk _ _ (fun e => ?_) ho
  subst e
  rw [ht] at ho
  cases ho
  exact (hd.row.off ht (fun _ _ _ e => by cases e)) hb, hd.few⟩
 exact ⟨hce _ _ _ h0, ⟨hce _ _ _ h1, hk _ _ hdoes h2, ⟨hce _ _ _ h3.here, hce _ _ _ h3.log, ⟨X, rows, n, hd', hu⟩, ⟨pc, hk _ _ (Ne.symm e1) hp, hn⟩, ⟨sl, sc, hk _ _ (Ne.symm e2) hs⟩, h3.few, h3.kv, h3.ne, wl, wc, hk _ _ (Ne.symm e2) hw1, hw2⟩, h4, h5⟩, ⟨n2, put_self _ _ _⟩, e1, e2⟩
def c_cIngest : AFn := ⟨2, 44, [4, 5],
 .seq (.ops [oe 3 (.box 38 (.tmp 1)),
   oq 4 (.mv (.const (.string ByteArray.empty))),
   oq 5 (.mv (.const (.int .i64 0)))])
 (.seq (.ops [oq 9 (.mv (.tmp 0)),
   oq 10 (.fad 1 1 (.tmp 3)),
   oq 11 (.ld false 1 (.tmp 10)),
   oe 12 (.call 81 [(.tmp 9), (.tmp 11)]),
   oq 8 (.mv (.tmp 12)),
   oq 13 (.ext (.tmp 8) 0),
   oq 14 (.ext (.tmp 8) 1),
   oq 6 (.mv (.tmp 13)),
   oq 7 (.mv (.tmp 14))])
 (.seq (.seq (.ops [oq 15 (.mv (.tmp 7)),
   oq 16 (.bin .neq .num (.tmp 15) (.const (.int .i64 0)))])
 (.cond (.tmp 16)
  (.seq (.ops [oq 17 (.mv (.tmp 7)),
    oq 4 (.mv (.const (.string ByteArray.empty))),
    oq 5 (.mv (.tmp 17))])
  (.ret))
  (.skip)))
 (.seq (.seq (.ops [oq 18 (.mv (.tmp 0)),
   oq 19 (.nck (.tmp 18)),
   oq 20 (.fad 21 1 (.tmp 19)),
   oq 21 (.ld false 1 (.tmp 20)),
   oq 22 (.fad 3 1 (.tmp 3)),
   oq 23 (.ld false 1 (.tmp 22)),
   oq 24 (.lk none false (.bool false) (.tmp 21) (.tmp 23))])
 (.cond (.tmp 24)
  (.seq (.ops [oq 4 (.mv (.const (.string ByteArray.empty))),
    oq 5 (.mv (.const (.int .i64 9)))])
  (.ret))
  (.skip)))
 (.seq (.ops [oq 25 (.mv (.tmp 6)),
   oq 26 (.fad 3 1 (.tmp 3)),
   oq 27 (.ld false 1 (.tmp 26)),
   oq 28 (.fad 4 1 (.tmp 3)),
   oq 29 (.ld false 1 (.tmp 28)),
   oe 30 (.call 82 [(.tmp 25), (.tmp 27), (.tmp 29)]),
   oq 7 (.mv (.tmp 30))])
 (.seq (.seq (.ops [oq 31 (.mv (.tmp 7)),
   oq 32 (.bin .eql .num (.tmp 31) (.const (.int .i64 0))),
   oq 33 (.mv (.tmp 32)),
   og 34 33 false (.mv (.tmp 7)),
   og 35 33 false (.bin .eql .num (.tmp 34) (.const (.int .i64 11))),
   oq 36 (.pick (.tmp 33) (.const (.bool true)) (.tmp 35))])
 (.cond (.tmp 36)
  (.ops [oq 37 (.mv (.tmp 0)),
    oq 38 (.nck (.tmp 37)),
    oq 39 (.fad 21 1 (.tmp 38)),
    oq 40 (.ld false 1 (.tmp 39)),
    oq 41 (.fad 3 1 (.tmp 3)),
    oq 42 (.ld false 1 (.tmp 41)),
    on (.up none (.tmp 40) (.tmp 42) (.const (.bool true)))])
  (.skip)))
 (.seq (.ops [oq 43 (.mv (.tmp 7)),
   oq 4 (.mv (.const (.string ByteArray.empty))),
   oq 5 (.mv (.tmp 43))])
 (.ret))))))), []⟩
theorem k_cIngest : compF Tryz.prog 49 = some c_cIngest := by kernel_rfl
set_option maxHeartbeats 4000000 in
theorem cIngest_ok {W : World} {H : AHeap} {c g s l d ps st does box tk used : Nat} {pl taken : List (Str × Nat × AVal)} (h : Clu H c g s l d ps st does box tk used pl taken) (x : Step) (hx : x.node = 1) (ht : sget x.id taken = none) (hid : x.id.size ≤ maxLen) (hm : mayE x.id x.text pl = 0) (hu : used + (5 + x.id.size + x.text.size) ≤ 60000) :
  ACalls Tryz.prog W 49 [ptr c, .agg (stepCells x)] H fun v H' => v = .tup [.v (.string ByteArray.empty), .v (.int .i64 0)] ∧ ∃ k taken', Clu H' c g s l d ps st does box tk 60000 (pl ++ [(x.id, k, keptV x.id x.text)]) taken' := by
 refine fn_run follows k_cIngest rfl ?_
 simp only [oq, og, oe, oh, on, c_cIngest, aretC_nil, List.zipIdx_cons, List.zipIdx_nil, List.map_cons, List.map_nil, Nat.zero_add]
 rw [stk_seq, stk_ops, stk_box]
 refine ⟨by rfl, fun b3 hb3 => ?_⟩
 have hb3 : H b3 = none := hb3
 have h1 := h.all (put_all (o := .cells 38 (stepCells x)) hb3)
 have g3 := hp_self H b3 (.cells 38 (stepCells x))
 change stk _ _ _ _ _ (AState.put ⟨_, H.put b3 (.cells 38 (stepCells x))⟩ _ _)
 generalize H.put b3 (.cells 38 (stepCells x)) = H1 at h1 g3 ⊢
 have hc := h1.here
 obtain ⟨tn, htk⟩ := h1.took
 have g3' := g3
 have hc' := hc
 unfold stepCells polCells at g3'
 unfold cluCells at hc'
 (try simp +decide -implicitDefEqProofs only [go_sem, g3', lay, oneOr, List.take_succ_cons, List.take_zero, List.drop_succ_cons, List.drop_zero, List.nil_append, List.cons_append, Option.getD_some, Nat.reduceAdd, Nat.reduceLeDiff, List.append_nil, and_self, List.all_cons, List.all_nil])
 rw [hx]
 refine stk_call (cUp_ok hc) fun v H2 hv => ?_
 obtain ⟨rfl, hH2⟩ := hv
 rw [hH2]
 have k0 : kOk none (.string x.id) = true := rfl
 have hq : (sget x.id taken).getD (.v (.bool false)) = .v (.bool false) := by rw [ht]; rfl
 have hz : zeroA (.bool false) = .v (.bool false) := rfl
 (try simp +decide -implicitDefEqProofs only [go_sem, g3', hc', htk, smap_ok, mget_smap, hz, hq, k0, ne_eq, not_true_eq_false, lay, oneOr, List.take_succ_cons, List.take_zero, List.drop_succ_cons, List.drop_zero, List.nil_append, List.cons_append, Option.getD_some, Nat.reduceAdd, Nat.reduceLeDiff, List.append_nil, and_self, List.all_cons, List.all_nil])
 refine stk_call (nIngestK_ok h1.nod x.id x.text hid) fun v H3 hv => ?_
 obtain ⟨e, pl', rfl, hnod, hkept, -, he⟩ := hv
 obtain ⟨rfl, k, rfl⟩ := he hm hu
 obtain ⟨X, rows, n, hd, _⟩ := h1.nod.sto.dev
 obtain ⟨pc, hp, _⟩ := h1.nod.sto.posts
 obtain ⟨sl, sc, hst⟩ := h1.nod.sto.stale
 have hce : ∀ y E cs, E ≠ tDev → H1 y = some (.cells E cs) → H3 y = some (.cells E cs) := fun y E cs hE ho => hkept y _ ho (fun e => by rw [e, hd.here] at ho; cases ho; exact hE rfl) (fun e => by rw [e, hp] at ho; cases ho) (fun e => by rw [e, hst] at ho; cases ho) (fun _ e => by cases e)
 have hc3 := hce _ _ _ (by decide) hc
 have g33 := hce _ _ _ (by decide) g3
 have ht3 : H3 tk = some (.mp (smap taken) tn) := hkept tk _ htk (fun e => by rw [e, hd.here] at htk; cases htk) h1.ne1 h1.ne2 (fun _ e => by cases e)
 have hclu : Clu H3 c g s l d ps st does box tk 60000 (pl ++ [(x.id, k, keptV x.id x.text)]) taken := ⟨hc3, hnod, ⟨tn, ht3⟩, h1.ne1, h1.ne2⟩
 have hc3' := hc3
 have g33' := g33
 unfold stepCells polCells at g33'
 unfold cluCells at hc3'
 (try simp +decide -implicitDefEqProofs only [go_sem, g33', hc3', lay, oneOr, List.take_succ_cons, List.take_zero, List.drop_succ_cons, List.drop_zero, List.nil_append, List.cons_append, Option.getD_some, Nat.reduceAdd, Nat.reduceLeDiff, List.append_nil, and_self, List.all_cons, List.all_nil])
 refine stk_up' (b := tk) (l := smap taken) (c := tn) rfl ht3 (smap_ok taken) rfl ?_
 (try simp +decide -implicitDefEqProofs only [go_sem, mput_smap, mclk_smap, lay, oneOr, List.take_succ_cons, List.take_zero, List.drop_succ_cons, List.drop_zero, List.nil_append, List.cons_append, Option.getD_some, Nat.reduceAdd, Nat.reduceLeDiff, List.append_nil, and_self, List.all_cons, List.all_nil])
 exact ⟨.inr rfl, _, _, Sub.refl _, .refl _, rfl, k, _, hclu.tookput _ _⟩
def c_cServe : AFn := ⟨2, 24, [4, 5],
 .seq (.ops [oe 3 (.box 38 (.tmp 1)),
   oq 4 (.mv (.const (.string ByteArray.empty))),
   oq 5 (.mv (.const (.int .i64 0)))])
 (.seq (.ops [oq 9 (.mv (.tmp 0)),
   oq 10 (.fad 1 1 (.tmp 3)),
   oq 11 (.ld false 1 (.tmp 10)),
   oe 12 (.call 81 [(.tmp 9), (.tmp 11)]),
   oq 8 (.mv (.tmp 12)),
   oq 13 (.ext (.tmp 8) 0),
   oq 14 (.ext (.tmp 8) 1),
   oq 6 (.mv (.tmp 13)),
   oq 7 (.mv (.tmp 14))])
 (.seq (.seq (.ops [oq 15 (.mv (.tmp 7)),
   oq 16 (.bin .neq .num (.tmp 15) (.const (.int .i64 0)))])
 (.cond (.tmp 16)
  (.seq (.ops [oq 17 (.mv (.tmp 7)),
    oq 4 (.mv (.const (.string ByteArray.empty))),
    oq 5 (.mv (.tmp 17))])
  (.ret))
  (.skip)))
 (.seq (.ops [oq 18 (.mv (.tmp 6)),
   oq 19 (.fad 3 1 (.tmp 3)),
   oq 20 (.ld false 1 (.tmp 19)),
   oe 21 (.call 83 [(.tmp 18), (.tmp 20)]),
   oq 22 (.ext (.tmp 21) 0),
   oq 23 (.ext (.tmp 21) 1),
   oq 4 (.mv (.tmp 22)),
   oq 5 (.mv (.tmp 23))])
 (.ret)))), []⟩
theorem k_cServe : compF Tryz.prog 50 = some c_cServe := by kernel_rfl
set_option maxHeartbeats 4000000 in
theorem cServe_ok {W : World} {H : AHeap} {c g s l d ps st does box tk used : Nat} {pl taken : List (Str × Nat × AVal)} (h : Clu H c g s l d ps st does box tk used pl taken) (x : Step) (hx : x.node = 1) (hin : (sget x.id pl).isSome = true) :
  ACalls Tryz.prog W 50 [ptr c, .agg (stepCells x)] H fun v H' => v = .tup [.v (.string ByteArray.empty), .v (.int .i64 12)] ∧ Clu H' c g s l d ps st does box tk used pl taken := by
 refine fn_run follows k_cServe rfl ?_
 simp only [oq, og, oe, oh, on, c_cServe, aretC_nil, List.zipIdx_cons, List.zipIdx_nil, List.map_cons, List.map_nil, Nat.zero_add]
 rw [stk_seq, stk_ops, stk_box]
 refine ⟨by rfl, fun b3 hb3 => ?_⟩
 have hb3 : H b3 = none := hb3
 have h1 := h.all (put_all (o := .cells 38 (stepCells x)) hb3)
 have g3 := hp_self H b3 (.cells 38 (stepCells x))
 change stk _ _ _ _ _ (AState.put ⟨_, H.put b3 (.cells 38 (stepCells x))⟩ _ _)
 generalize H.put b3 (.cells 38 (stepCells x)) = H1 at h1 g3 ⊢
 have hc := h1.here
 have g3' := g3
 unfold stepCells polCells at g3'
 (try simp +decide -implicitDefEqProofs only [go_sem, g3', lay, oneOr, List.take_succ_cons, List.take_zero, List.drop_succ_cons, List.drop_zero, List.nil_append, List.cons_append, Option.getD_some, Nat.reduceAdd, Nat.reduceLeDiff, List.append_nil, and_self, List.all_cons, List.all_nil])
 rw [hx]
 refine stk_call (cUp_ok hc) fun v H2 hv => ?_
 obtain ⟨rfl, hH2⟩ := hv
 rw [hH2]
 (try simp +decide -implicitDefEqProofs only [go_sem, g3', ne_eq, not_true_eq_false, lay, oneOr, List.take_succ_cons, List.take_zero, List.drop_succ_cons, List.drop_zero, List.nil_append, List.cons_append, Option.getD_some, Nat.reduceAdd, Nat.reduceLeDiff, List.append_nil, and_self, List.all_cons, List.all_nil])
 refine stk_call (nServe_ok h1.nod x.id hin) fun v H3 hv => ?_
 obtain ⟨rfl, hk⟩ := hv
 (try simp +decide -implicitDefEqProofs only [go_sem, lay, oneOr, List.take_succ_cons, List.take_zero, List.drop_succ_cons, List.drop_zero, List.nil_append, List.cons_append, Option.getD_some, Nat.reduceAdd, Nat.reduceLeDiff, List.append_nil, and_self, List.all_cons, List.all_nil])
 exact ⟨.inr rfl, _, _, Sub.refl _, .refl _, rfl, h1.all hk⟩
def c_cDo : AFn := ⟨2, 48, [4, 5],
 .seq (.ops [oe 3 (.box 38 (.tmp 1)),
   oq 4 (.mv (.const (.string ByteArray.empty))),
   oq 5 (.mv (.const (.int .i64 0)))])
 (.seq (.ops [oq 6 (.mv (.const .nilFunc))])
 (.seq (.seq (.ops [oq 7 (.fad 0 1 (.tmp 3)),
   oq 8 (.ld false 1 (.tmp 7))])
 (.block 0 (.seq (.ops [oq 10 (.bin .eql .num (.tmp 8) (.const (.int .i64 1))),
    oq 9 (.mv (.tmp 10))])
  (.cond (.tmp 9)
   (.ops [oq 11 (.mv (.tmp 0)),
     oq 12 (.mkb 49 [(.tmp 11)]),
     oq 6 (.mv (.tmp 12))])
   (.seq (.ops [oq 14 (.bin .eql .num (.tmp 8) (.const (.int .i64 2))),
     oq 13 (.mv (.tmp 14))])
   (.cond (.tmp 13)
    (.ops [oq 15 (.mv (.tmp 0)),
      oq 16 (.mkb 50 [(.tmp 15)]),
      oq 6 (.mv (.tmp 16))])
    (.seq (.ops [oq 18 (.bin .eql .num (.tmp 8) (.const (.int .i64 3))),
      oq 17 (.mv (.tmp 18))])
    (.cond (.tmp 17)
     (.ops [oq 19 (.mv (.tmp 0)),
       oq 20 (.mkb 51 [(.tmp 19)]),
       oq 6 (.mv (.tmp 20))])
     (.seq (.ops [oq 22 (.bin .eql .num (.tmp 8) (.const (.int .i64 4))),
       oq 21 (.mv (.tmp 22))])
     (.cond (.tmp 21)
      (.ops [oq 23 (.mv (.tmp 0)),
        oq 24 (.mkb 52 [(.tmp 23)]),
        oq 6 (.mv (.tmp 24))])
      (.seq (.ops [oq 26 (.bin .eql .num (.tmp 8) (.const (.int .i64 5))),
        oq 25 (.mv (.tmp 26))])
      (.cond (.tmp 25)
       (.ops [oq 27 (.mv (.tmp 0)),
         oq 28 (.mkb 53 [(.tmp 27)]),
         oq 6 (.mv (.tmp 28))])
       (.seq (.ops [oq 30 (.bin .eql .num (.tmp 8) (.const (.int .i64 6))),
         oq 29 (.mv (.tmp 30))])
       (.cond (.tmp 29)
        (.ops [oq 31 (.mv (.tmp 0)),
          oq 32 (.mkb 54 [(.tmp 31)]),
          oq 6 (.mv (.tmp 32))])
        (.seq (.ops [oq 34 (.bin .eql .num (.tmp 8) (.const (.int .i64 7))),
          oq 33 (.mv (.tmp 34))])
        (.cond (.tmp 33)
         (.ops [oq 35 (.mv (.tmp 0)),
           oq 36 (.mkb 55 [(.tmp 35)]),
           oq 6 (.mv (.tmp 36))])
         (.seq (.seq (.ops [oq 38 (.bin .eql .num (.tmp 8) (.const (.int .i64 8))),
           oq 37 (.mv (.tmp 38))])
         (.cond (.tmp 37)
          (.skip)
          (.seq (.ops [oq 39 (.bin .eql .num (.tmp 8) (.const (.int .i64 9))),
            oq 37 (.mv (.tmp 39))])
          (.cond (.tmp 37)
           (.skip)
           (.ops [oq 40 (.bin .eql .num (.tmp 8) (.const (.int .i64 10))),
             oq 37 (.mv (.tmp 40))])))))
         (.cond (.tmp 37)
          (.ops [oq 41 (.mv (.tmp 0)),
            oq 42 (.mkb 56 [(.tmp 41)]),
            oq 6 (.mv (.tmp 42))])
          (.seq (.ops [oq 4 (.mv (.const (.string ByteArray.empty))),
            oq 5 (.mv (.const (.int .i64 1)))])
          (.ret))))))))))))))))))))
 (.seq (.ops [oq 43 (.mv (.tmp 6)),
   oq 44 (.ld true 14 (.tmp 3)),
   oe 45 (.callv (.tmp 43) [(.tmp 44)]),
   oq 46 (.ext (.tmp 45) 0),
   oq 47 (.ext (.tmp 45) 1),
   oq 4 (.mv (.tmp 46)),
   oq 5 (.mv (.tmp 47))])
 (.ret)))), []⟩
theorem k_cDo : compF Tryz.prog 26 = some c_cDo := by kernel_rfl
set_option maxHeartbeats 4000000 in
theorem cDo1_ok {W : World} {H : AHeap} {c g s l d ps st does box tk used : Nat} {pl taken : List (Str × Nat × AVal)} (h : Clu H c g s l d ps st does box tk used pl taken) (x : Step) (hd : x.dof = 1) (hx : x.node = 1) (ht : sget x.id taken = none) (hid : x.id.size ≤ maxLen) (hm : mayE x.id x.text pl = 0) (hu : used + (5 + x.id.size + x.text.size) ≤ 60000) :
  ACalls Tryz.prog W 26 [ptr c, .agg (stepCells x)] H fun v H' => v = .tup [.v (.string ByteArray.empty), .v (.int .i64 0)] ∧ ∃ k taken', Clu H' c g s l d ps st does box tk 60000 (pl ++ [(x.id, k, keptV x.id x.text)]) taken' := by
 refine fn_run follows k_cDo rfl ?_
 simp only [oq, og, oe, oh, on, c_cDo, aretC_nil, List.zipIdx_cons, List.zipIdx_nil, List.map_cons, List.map_nil, Nat.zero_add]
 rw [stk_seq, stk_ops, stk_box]
 refine ⟨by rfl, fun b3 hb3 => ?_⟩
 have hb3 : H b3 = none := hb3
 have h1 := h.all (put_all (o := .cells 38 (stepCells x)) hb3)
 have g3 := hp_self H b3 (.cells 38 (stepCells x))
 change stk _ _ _ _ _ (AState.put ⟨_, H.put b3 (.cells 38 (stepCells x))⟩ _ _)
 generalize H.put b3 (.cells 38 (stepCells x)) = H1 at h1 g3 ⊢
 have g3' := g3
 unfold stepCells polCells at g3'
 rw [hd] at g3'
 (try simp +decide -implicitDefEqProofs only [go_sem, g3', lay, oneOr, List.take_succ_cons, List.take_zero, List.drop_succ_cons, List.drop_zero, List.nil_append, List.cons_append, Option.getD_some, Nat.reduceAdd, Nat.reduceLeDiff, List.append_nil, and_self, List.all_cons, List.all_nil])
 refine stk_callb rfl (by kernel_rfl) (by have := cIngest_ok (W := W) h1 x hx ht hid hm hu; unfold stepCells polCells at this; rw [hd] at this; exact this) fun v H' hv => ?_
 obtain ⟨rfl, hv⟩ := hv
 (try simp +decide -implicitDefEqProofs only [go_sem, lay, oneOr, List.take_succ_cons, List.take_zero, List.drop_succ_cons, List.drop_zero, List.nil_append, List.cons_append, Option.getD_some, Nat.reduceAdd, Nat.reduceLeDiff, List.append_nil, and_self, List.all_cons, List.all_nil])
 exact ⟨.inr rfl, _, _, Sub.refl _, .refl _, rfl, hv⟩
set_option maxHeartbeats 4000000 in
theorem cDo2_ok {W : World} {H : AHeap} {c g s l d ps st does box tk used : Nat} {pl taken : List (Str × Nat × AVal)} (h : Clu H c g s l d ps st does box tk used pl taken) (x : Step) (hd : x.dof = 2) (hx : x.node = 1) (hin : (sget x.id pl).isSome = true) :
  ACalls Tryz.prog W 26 [ptr c, .agg (stepCells x)] H fun v H' => v = .tup [.v (.string ByteArray.empty), .v (.int .i64 12)] ∧ Clu H' c g s l d ps st does box tk used pl taken := by
 refine fn_run follows k_cDo rfl ?_
 simp only [oq, og, oe, oh, on, c_cDo, aretC_nil, List.zipIdx_cons, List.zipIdx_nil, List.map_cons, List.map_nil, Nat.zero_add]
 rw [stk_seq, stk_ops, stk_box]
 refine ⟨by rfl, fun b3 hb3 => ?_⟩
 have hb3 : H b3 = none := hb3
 have h1 := h.all (put_all (o := .cells 38 (stepCells x)) hb3)
 have g3 := hp_self H b3 (.cells 38 (stepCells x))
 change stk _ _ _ _ _ (AState.put ⟨_, H.put b3 (.cells 38 (stepCells x))⟩ _ _)
 generalize H.put b3 (.cells 38 (stepCells x)) = H1 at h1 g3 ⊢
 have g3' := g3
 unfold stepCells polCells at g3'
 rw [hd] at g3'
 (try simp +decide -implicitDefEqProofs only [go_sem, g3', lay, oneOr, List.take_succ_cons, List.take_zero, List.drop_succ_cons, List.drop_zero, List.nil_append, List.cons_append, Option.getD_some, Nat.reduceAdd, Nat.reduceLeDiff, List.append_nil, and_self, List.all_cons, List.all_nil])
 refine stk_callb rfl (by kernel_rfl) (by have := cServe_ok (W := W) h1 x hx hin; unfold stepCells polCells at this; rw [hd] at this; exact this) fun v H' hv => ?_
 obtain ⟨rfl, hv⟩ := hv
 (try simp +decide -implicitDefEqProofs only [go_sem, lay, oneOr, List.take_succ_cons, List.take_zero, List.drop_succ_cons, List.drop_zero, List.nil_append, List.cons_append, Option.getD_some, Nat.reduceAdd, Nat.reduceLeDiff, List.append_nil, and_self, List.all_cons, List.all_nil])
 exact ⟨.inr rfl, _, _, Sub.refl _, .refl _, rfl, hv⟩
end Go.Proofs.YtfaodacmdlnabaaGreatDoor.M
namespace Go.Proofs.YtfaodacmdlnabaaGreatDoor.M
open Go.RowKit
set_option linter.unusedVariables false
set_option linter.unusedSimpArgs false
/-- A Builder and what else is owned, apart. -/
def Two (H : AHeap) (b : Nat) (t : Str) (B : AHeap) : Prop := ∃ A, Sub A H ∧ Sub B H ∧ Dis A B ∧ BuildH A b t
theorem Two.junk {H : AHeap} {b x : Nat} {t : Str} {B : AHeap} {o : AObj} (h : Two H b t B) (hx : H x = none) : Two (H.put x o) b t B := by
 obtain ⟨A, h1, h2, h3, h4⟩ := h
 exact ⟨A, fun y z hy => put_all hx y z (h1 y z hy), fun y z hy => put_all hx y z (h2 y z hy), h3, h4⟩
theorem sub_add {H B : AHeap} {x : Nat} {o : AObj} (hs : Sub B H) (hx : H x = some o) : Sub (B.put x o) H := fun y z hy => by
 by_cases e : y = x
 ·subst e; rw [put_self] at hy; rw [hx]; exact hy
 ·rw [put_ne _ _ e] at hy; exact hs y z hy
/-- A call of all but the Builder, beside a block that stays. -/
theorem Two.call {W : World} {f : FuncId} {args : List AVal} {H : AHeap} {b x : Nat} {t : Str} {B : AHeap} {o : AObj} {K : AVal → AHeap → Prop} (h : Two H b t B) (hx : H x = none) (hc : ACalls Tryz.prog W f args B K) :
  ACalls Tryz.prog W f args (H.put x o) fun v H' => ∃ B', K v B' ∧ Two H' b t B' ∧ H' x = some o := by
 obtain ⟨A, h1, h2, h3, h4⟩ := h
 refine (ACalls.part (fun y z hy => put_all hx y z (h2 y z hy)) hc).mono ?_
 rintro v H' ⟨B', k1, k2, k3⟩
 obtain ⟨k4, k5⟩ := k3 A (fun y z hy => put_all hx y z (h1 y z hy)) h3.symm
 obtain ⟨k6, k7⟩ := k3 (AHeap.none.put x o) (fun y z hy => by
  show (H.put x o) y = some z
  by_cases e : y = x
  ·rw [e, put_self] at hy ⊢; exact hy
  ·rw [put_ne _ _ e] at hy; cases hy) (fun y hy => by
  by_cases e : y = x
  ·subst e
   cases e2 : B y with
   | none => exact absurd e2 hy
   | some z => have := h2 y z e2; rw [hx] at this; cases this
  ·rw [put_ne _ _ e]; rfl)
 exact ⟨B', k1, ⟨A, k4, k2, k5.symm, h4⟩, k6 x o (put_self _ _ _)⟩
theorem Two.write {W : World} {H : AHeap} {b : Nat} {t s : Str} {B : AHeap} (h : Two H b t B) (hs : t.size + s.size ≤ 100000000000) : ACalls Tryz.prog W 18 [ptr b, .v (.string s)] H fun _ H' => Two H' b (t ++ s) B := by
 obtain ⟨A, h1, h2, h3, h4⟩ := h
 refine (ACalls.part h1 (write_ok h4 hs)).mono ?_
 rintro v H' ⟨A', k1, k2, k3⟩
 obtain ⟨k4, k5⟩ := k3 B h2 h3
 exact ⟨A', k2, k4, k5, k1⟩
theorem Two.text {W : World} {H : AHeap} {b : Nat} {t : Str} {B : AHeap} (h : Two H b t B) : ACalls Tryz.prog W 19 [ptr b] H fun v _ => v = .v (.string t) := by
 obtain ⟨A, h1, h2, h3, h4⟩ := h
 exact (ACalls.part h1 (bstrA_ok h4)).mono fun v H' ⟨A', k, _⟩ => k
def stA : Step := ⟨1, 1, 0, (⟨#[97]⟩ : ByteArray), ⟨#[60, 98, 62, 32, 120, 10]⟩, pol0⟩
def stB : Step := ⟨2, 1, 0, (⟨#[97]⟩ : ByteArray), ByteArray.empty, pol0⟩
abbrev l0 : Str := ⟨#[48, 10]⟩
abbrev l12 : Str := ⟨#[49, 50, 10]⟩
theorem line0 : lnLine [.num 0] = some l0 := by decide +kernel
theorem line12 : lnLine [.num 12] = some l12 := by decide +kernel
def tI : Nat → Str
 | 0 => ByteArray.empty
 | 1 => l0
 | _ => l0 ++ l12
def cI (c g s l d ps st does box tk : Nat) (B : AHeap) : Nat → Prop
 | 0 => Clu B c g s l d ps st does box tk 0 [] []
 | 1 => ∃ k taken, Clu B c g s l d ps st does box tk 60000 [(stA.id, k, keptV stA.id stA.text)] taken
 | _ => True
def c_lnPlay : AFn := ⟨2, 60, [4, 5],
 .seq (.ops [oq 4 (.mv (.const (.string ByteArray.empty))),
   oq 5 (.mv (.const (.int .i64 0)))])
 (.seq (.ops [oq 17 (.mv (.tmp 0)),
   oe 18 (.call 25 [(.tmp 17)]),
   oq 16 (.mv (.tmp 18)),
   oq 19 (.ext (.tmp 16) 0),
   oq 20 (.ext (.tmp 16) 1),
   oq 6 (.mv (.tmp 19)),
   oq 7 (.mv (.tmp 20))])
 (.seq (.seq (.ops [oq 21 (.mv (.tmp 7)),
   oq 22 (.bin .neq .num (.tmp 21) (.const (.int .i64 0)))])
 (.cond (.tmp 22)
  (.seq (.ops [oq 23 (.mv (.tmp 7)),
    oq 4 (.mv (.const (.string ByteArray.empty))),
    oq 5 (.mv (.tmp 23))])
  (.ret))
  (.skip)))
 (.seq (.ops [oe 8 (.alloc 45 [(.pointer none), (.slice none 0 0)])])
 (.seq (.seq (.ops [oq 24 (.mv (.tmp 1)),
   oq 25 (.len false (.tmp 24)),
   oq 26 (.mv (.const (.int .i64 0)))])
 (.block 0 (.loop (.seq (.ops [oq 27 (.bin .lss .num (.tmp 26) (.tmp 25))])
   (.seq (.cond (.tmp 27)
    (.skip)
    (.exit 0))
   (.seq (.block 1 (.seq (.ops [oq 28 (.ixa 14 (.tmp 24) (.tmp 26)),
      oq 29 (.ld true 14 (.tmp 28)),
      oe 10 (.alloc 38 [(.int .i64 0), (.int .i64 0), (.int .i64 0), (.string ByteArray.empty), (.string ByteArray.empty), (.int .i64 0), (.slice none 0 0), (.slice none 0 0), (.slice none 0 0), (.slice none 0 0), (.slice none 0 0), (.int .i64 0), (.int .i64 0), (.int .i64 0)]),
      on (.st 14 (.tmp 10) (.tmp 29))])
    (.seq (.ops [oq 31 (.mv (.tmp 6)),
      oq 32 (.ld true 14 (.tmp 10)),
      oe 33 (.call 26 [(.tmp 31), (.tmp 32)]),
      oq 30 (.mv (.tmp 33)),
      oq 34 (.ext (.tmp 30) 0),
      oq 35 (.ext (.tmp 30) 1),
      oq 11 (.mv (.tmp 34)),
      oq 12 (.mv (.tmp 35))])
    (.seq (.ops [oq 36 (.mv (.tmp 12)),
      oq 37 (.mki 3 (.tmp 36)),
      oe 38 (.bsl 20 1 [(.tmp 37)]),
      oq 13 (.mv (.tmp 38))])
    (.seq (.seq (.ops [oq 39 (.fad 0 1 (.tmp 10)),
      oq 40 (.ld false 1 (.tmp 39)),
      oq 41 (.bin .eql .num (.tmp 40) (.const (.int .i64 2))),
      oq 42 (.mv (.tmp 41)),
      og 43 42 true (.mv (.tmp 12)),
      og 44 42 true (.bin .eql .num (.tmp 43) (.const (.int .i64 0))),
      oq 45 (.pick (.tmp 42) (.tmp 44) (.const (.bool false)))])
    (.cond (.tmp 45)
     (.ops [oq 46 (.mv (.tmp 13)),
       oq 47 (.mv (.tmp 11)),
       oq 48 (.mki 62 (.tmp 47)),
       oe 49 (.bsl 20 1 [(.tmp 48)]),
       oe 50 (.app 20 1 16 false (.tmp 46) (.tmp 49)),
       oq 13 (.mv (.tmp 50))])
     (.skip)))
    (.seq (.ops [oq 52 (.mv (.tmp 13)),
      oe 53 (.call 27 [(.tmp 52)]),
      oq 51 (.mv (.tmp 53)),
      oq 54 (.ext (.tmp 51) 0),
      oq 55 (.ext (.tmp 51) 1),
      oq 14 (.mv (.tmp 54)),
      oq 15 (.mv (.tmp 55))])
    (.ops [oq 56 (.mv (.tmp 14)),
      oe 57 (.call 18 [(.tmp 8), (.tmp 56)])])))))))
   (.ops [oq 58 (.bin .add .num (.tmp 26) (.const (.int .i64 1))),
     oq 26 (.mv (.tmp 58))])))))))
 (.seq (.ops [oe 59 (.call 19 [(.tmp 8)]),
   oq 4 (.mv (.tmp 59)),
   oq 5 (.mv (.const (.int .i64 0)))])
 (.ret)))))), []⟩
theorem k_lnPlay : compF Tryz.prog 15 = some c_lnPlay := by kernel_rfl
set_option maxHeartbeats 8000000 in
theorem play_ok {W : World} (L : Laid W) {f : Bool} : ACalls Tryz.prog W 15 [.v (.int .i64 1), .sl f 14 ([stA, stB].map stepCells)] AHeap.none fun v _ => v = .tup [.v (.string (l0 ++ l12)), .v (.int .i64 0)] := by
 have hlen : ([stA, stB].map stepCells).length = 2 := rfl
 have hr0 : ([stA, stB].map stepCells).getD 0 [] = stepCells stA := rfl
 have hr1 : ([stA, stB].map stepCells).getD 1 [] = stepCells stB := rfl
 generalize [stA, stB].map stepCells = rows at hlen hr0 hr1
 refine fn_run follows k_lnPlay rfl ?_
 simp only [oq, og, oe, oh, on, c_lnPlay, aretC_nil, List.zipIdx_cons, List.zipIdx_nil, List.map_cons, List.map_nil, Nat.zero_add]
 (try simp +decide -implicitDefEqProofs only [go_sem])
 refine stk_call cNew_ok fun v H1 hv => ?_
 obtain ⟨c, g, s, l, d, ps, st, does, box, tk, rfl, hclu⟩ := hv
 (try simp +decide -implicitDefEqProofs only [go_sem, ne_eq, not_true_eq_false, hlen, lay, oneOr, List.take_succ_cons, List.take_zero, List.drop_succ_cons, List.drop_zero, List.nil_append, List.cons_append, Option.getD_some, Nat.reduceAdd, Nat.reduceLeDiff, List.append_nil, and_self, List.all_cons, List.all_nil])
 rw [stk_alloc]
 intro b hb
 have hb : H1 b = none := hb
 have s1 : Sub (AHeap.none.put b (.cells 45 [.v (.pointer none), .v (.slice none 0 0)])) (H1.put b (.cells 45 [.v (.pointer none), .v (.slice none 0 0)])) := fun y z hy => by
  by_cases e : y = b
  ·rw [e, put_self] at hy ⊢; exact hy
  ·rw [put_ne _ _ e] at hy; cases hy
 have s2 : Dis (AHeap.none.put b (.cells 45 [.v (.pointer none), .v (.slice none 0 0)])) H1 := fun y hy => by
  by_cases e : y = b
  ·rw [e]; exact hb
  ·rw [put_ne _ _ e] at hy; exact absurd rfl hy
 have hT : Two (H1.put b (.cells 45 [.v (.pointer none), .v (.slice none 0 0)])) b ByteArray.empty H1 := ⟨_, s1, fun y z hy => put_all hb y z hy, s2, none, _, hp_self _ _ _, .inl rfl, .nil⟩
 change stk _ _ _ _ _ (AState.put ⟨_, H1.put b (.cells 45 [.v (.pointer none), .v (.slice none 0 0)])⟩ _ _)
 generalize H1.put b (.cells 45 [.v (.pointer none), .v (.slice none 0 0)]) = H2 at hT ⊢
 (try simp +decide -implicitDefEqProofs only [go_sem, hlen])
 refine stk_up (α := AHeap) 2 (fun i H => ⟨[(26, .v (.int .i64 i)), (25, .v (.int .i64 2)), (24, .sl f 14 rows), (8, ptr b), (6, ptr c)], H⟩) (fun i H => ∃ B, Two H b (tI i) B ∧ cI c g s l d ps st does box tk B i) H2 (Weak.list _ (Sub.refl _) (by (try simp +decide -implicitDefEqProofs only [go_sem, hlen]); exact FZ.refl _)) ⟨H1, hT, hclu⟩ ?_
 rintro i H hi ⟨B, hT, hC⟩
 rcases i with _ | _ | _ | i
 ·have hC : Clu B c g s l d ps st does box tk 0 [] [] := hC
  (try simp +decide -implicitDefEqProofs only [go_sem, hlen, hr0, stepCells, polCells, stA, lay, oneOr, List.take_succ_cons, List.take_zero, List.drop_succ_cons, List.drop_zero, List.nil_append, List.cons_append, Option.getD_some, Nat.reduceAdd, Nat.reduceLeDiff, List.append_nil, and_self, List.all_cons, List.all_nil])
  rw [stk_alloc]
  intro b10 hb10
  have hb10 : H b10 = none := hb10
  (try simp +decide -implicitDefEqProofs only [go_sem, hp_self, hp_hp, lay, oneOr, List.take_succ_cons, List.take_zero, List.drop_succ_cons, List.drop_zero, List.nil_append, List.cons_append, Option.getD_some, Nat.reduceAdd, Nat.reduceLeDiff, List.append_nil, and_self, List.all_cons, List.all_nil])
  refine stk_call (Two.call hT hb10 (cDo1_ok hC stA rfl rfl rfl (by decide) (by decide +kernel) (by decide))) fun v H3 hv => ?_
  obtain ⟨B', ⟨rfl, k, taken', hclu'⟩, hT', hx'⟩ := hv
  (try simp +decide -implicitDefEqProofs only [go_sem, hx', lay, oneOr, List.take_succ_cons, List.take_zero, List.drop_succ_cons, List.drop_zero, List.nil_append, List.cons_append, Option.getD_some, Nat.reduceAdd, Nat.reduceLeDiff, List.append_nil, and_self, List.all_cons, List.all_nil])
  refine stk_pure (line_okL L true [.num 0] (by decide) (fun p hp => by simp at hp; subst hp; trivial)) fun v hv => ?_
  subst hv
  rw [line0]
  (try simp +decide -implicitDefEqProofs only [go_sem, optR, lay, oneOr, List.take_succ_cons, List.take_zero, List.drop_succ_cons, List.drop_zero, List.nil_append, List.cons_append, Option.getD_some, Nat.reduceAdd, Nat.reduceLeDiff, List.append_nil, and_self, List.all_cons, List.all_nil])
  refine stk_call (Two.write hT' (by decide)) fun v H4 hT4 => ?_
  (try simp +decide -implicitDefEqProofs only [go_sem])
  exact ⟨H4, Weak.list _ (Sub.refl _) (by (try simp +decide -implicitDefEqProofs only [go_sem]); exact FZ.refl _), B', hT4, k, taken', hclu'⟩
 ·obtain ⟨k, taken, hC⟩ : ∃ k taken, Clu B c g s l d ps st does box tk 60000 [(stA.id, k, keptV stA.id stA.text)] taken := hC
  have t1 : Int.toNat 1 = 1 := rfl
  (try simp +decide -implicitDefEqProofs only [go_sem, hlen, t1, hr1, stepCells, polCells, stB, lay, oneOr, List.take_succ_cons, List.take_zero, List.drop_succ_cons, List.drop_zero, List.nil_append, List.cons_append, Option.getD_some, Nat.reduceAdd, Nat.reduceLeDiff, List.append_nil, and_self, List.all_cons, List.all_nil])
  rw [stk_alloc]
  intro b10 hb10
  have hb10 : H b10 = none := hb10
  (try simp +decide -implicitDefEqProofs only [go_sem, hp_self, hp_hp, lay, oneOr, List.take_succ_cons, List.take_zero, List.drop_succ_cons, List.drop_zero, List.nil_append, List.cons_append, Option.getD_some, Nat.reduceAdd, Nat.reduceLeDiff, List.append_nil, and_self, List.all_cons, List.all_nil])
  refine stk_call (Two.call hT hb10 (cDo2_ok hC stB rfl rfl (by simp [sget, stA, stB]))) fun v H3 hv => ?_
  obtain ⟨B', ⟨rfl, hclu'⟩, hT', hx'⟩ := hv
  (try simp +decide -implicitDefEqProofs only [go_sem, hx', lay, oneOr, List.take_succ_cons, List.take_zero, List.drop_succ_cons, List.drop_zero, List.nil_append, List.cons_append, Option.getD_some, Nat.reduceAdd, Nat.reduceLeDiff, List.append_nil, and_self, List.all_cons, List.all_nil])
  refine stk_pure (line_okL L true [.num 12] (by decide) (fun p hp => by simp at hp; subst hp; trivial)) fun v hv => ?_
  subst hv
  rw [line12]
  (try simp +decide -implicitDefEqProofs only [go_sem, optR, lay, oneOr, List.take_succ_cons, List.take_zero, List.drop_succ_cons, List.drop_zero, List.nil_append, List.cons_append, Option.getD_some, Nat.reduceAdd, Nat.reduceLeDiff, List.append_nil, and_self, List.all_cons, List.all_nil])
  refine stk_call (Two.write hT' (by decide)) fun v H4 hT4 => ?_
  (try simp +decide -implicitDefEqProofs only [go_sem])
  exact ⟨H4, Weak.list _ (Sub.refl _) (by (try simp +decide -implicitDefEqProofs only [go_sem]); exact FZ.refl _), B', hT4, trivial⟩
 ·(try simp +decide -implicitDefEqProofs only [go_sem])
  refine stk_call (Two.text hT) fun v H3 hv => ?_
  subst hv
  (try simp +decide -implicitDefEqProofs only [go_sem])
  refine aret_pure (.inr rfl) ?_; simp +decide only [retOf, tget, if_true, if_false, ↓reduceIte, List.map_cons, List.map_nil]
  rfl
 ·omega
def awS : Str := ⟨#[105, 110, 103, 101, 115, 116, 32, 49, 32, 97, 32, 60, 98, 62, 32, 120, 92, 110, 10, 115, 101, 114, 118, 101, 32, 49, 32, 97, 10]⟩
def c_lnAwake : AFn := ⟨0, 57, [0],
 .seq (.ops [oq 0 (.mv (.const (.bool false)))])
 (.seq (.ops [oe 9 (.call 11 [(.const (.string ⟨#[105, 110, 103, 101, 115, 116, 32, 49, 32, 97, 32, 60, 98, 62, 32, 120, 92, 110, 10, 115, 101, 114, 118, 101, 32, 49, 32, 97, 10]⟩))]),
   oq 8 (.mv (.tmp 9)),
   oq 10 (.ext (.tmp 8) 0),
   oq 11 (.ext (.tmp 8) 1),
   oq 12 (.ext (.tmp 8) 2),
   oq 1 (.mv (.tmp 10)),
   oq 2 (.mv (.tmp 11)),
   oq 3 (.mv (.tmp 12))])
 (.seq (.ops [oq 14 (.mv (.tmp 1)),
   oe 15 (.call 10 [(.tmp 14)]),
   oq 13 (.mv (.tmp 15)),
   oq 16 (.ext (.tmp 13) 0),
   oq 17 (.ext (.tmp 13) 1),
   oq 4 (.mv (.tmp 16)),
   oq 5 (.mv (.tmp 17))])
 (.seq (.ops [oq 19 (.mv (.tmp 1)),
   oe 20 (.call 15 [(.const (.int .i64 1)), (.tmp 19)]),
   oq 18 (.mv (.tmp 20)),
   oq 21 (.ext (.tmp 18) 0),
   oq 22 (.ext (.tmp 18) 1),
   oq 6 (.mv (.tmp 21)),
   oq 7 (.mv (.tmp 22))])
 (.seq (.ops [oq 23 (.mv (.tmp 2)),
   oq 24 (.bin .eql .num (.tmp 23) (.const (.int .i64 0))),
   oq 25 (.mv (.tmp 24)),
   og 26 25 true (.mv (.tmp 3)),
   og 27 25 true (.bin .eql .num (.tmp 26) (.const (.int .i64 (-1)))),
   oq 28 (.pick (.tmp 25) (.tmp 27) (.const (.bool false))),
   oq 29 (.mv (.tmp 28)),
   og 30 29 true (.mv (.tmp 1)),
   og 31 29 true (.len false (.tmp 30)),
   og 32 29 true (.bin .eql .num (.tmp 31) (.const (.int .i64 2))),
   oq 33 (.pick (.tmp 29) (.tmp 32) (.const (.bool false))),
   oq 34 (.mv (.tmp 33)),
   og 35 34 true (.mv (.tmp 1)),
   og 36 34 true (.ixa 14 (.tmp 35) (.const (.int .i64 0))),
   og 37 34 true (.fad 4 1 (.tmp 36)),
   og 38 34 true (.ld false 1 (.tmp 37)),
   og 39 34 true (.bin .eql .num (.tmp 38) (.const (.string ⟨#[60, 98, 62, 32, 120, 10]⟩))),
   oq 40 (.pick (.tmp 34) (.tmp 39) (.const (.bool false))),
   oq 41 (.mv (.tmp 40)),
   og 42 41 true (.mv (.tmp 5)),
   og 43 41 true (.bin .eql .num (.tmp 42) (.const (.int .i64 0))),
   oq 44 (.pick (.tmp 41) (.tmp 43) (.const (.bool false))),
   oq 45 (.mv (.tmp 44)),
   og 46 45 true (.mv (.tmp 4)),
   og 47 45 true (.bin .eql .num (.tmp 46) (.const (.string ⟨#[105, 110, 103, 101, 115, 116, 32, 49, 32, 97, 32, 60, 98, 62, 32, 120, 92, 110, 10, 115, 101, 114, 118, 101, 32, 49, 32, 97, 10]⟩))),
   oq 48 (.pick (.tmp 45) (.tmp 47) (.const (.bool false))),
   oq 49 (.mv (.tmp 48)),
   og 50 49 true (.mv (.tmp 6)),
   og 51 49 true (.bin .eql .num (.tmp 50) (.const (.string ⟨#[48, 10, 49, 50, 10]⟩))),
   oq 52 (.pick (.tmp 49) (.tmp 51) (.const (.bool false))),
   oq 53 (.mv (.tmp 52)),
   og 54 53 true (.mv (.tmp 7)),
   og 55 53 true (.bin .eql .num (.tmp 54) (.const (.int .i64 0))),
   oq 56 (.pick (.tmp 53) (.tmp 55) (.const (.bool false))),
   oq 0 (.mv (.tmp 56))])
 (.ret))))), []⟩
theorem k_lnAwake : compF Tryz.prog 8 = some c_lnAwake := by kernel_rfl
theorem awParse : parseS lnStep (bl awS) = .ok [stA, stB] := by kernel_rfl
theorem awText : lnText [stA, stB] = some awS := by kernel_rfl
theorem awOk : ∀ h ∈ linesOf (bl awS), lnOk h := by
 have e : (linesOf (bl awS)).all (fun h => decide (doOf (cutT (mkS h) spS).1 ≠ 3)) = true := by kernel_rfl
 intro h hh h3
 have := List.all_eq_true.mp e h hh
 exact absurd h3 (of_decide_eq_true this)
theorem awLines : ([stA, stB].all fun s => match lnOf s with | some t => decide (t.size ≤ 10000000) | none => true) = true := by kernel_rfl
set_option maxHeartbeats 8000000 in
theorem lnAwake_ok {W : World} (L : Laid W) (E : Errs W) : Awake W := by
 unfold Awake
 refine fn_run follows k_lnAwake rfl ?_
 simp only [oq, og, oe, oh, on, c_lnAwake, aretC_nil, List.zipIdx_cons, List.zipIdx_nil, List.map_cons, List.map_nil, Nat.zero_add]
 (try simp +decide -implicitDefEqProofs only [go_sem])
 refine stk_pure (parse_ok L E awS (by decide) awOk) fun v hv => ?_
 subst hv
 rw [awParse]
 unfold parseV
 (try simp +decide -implicitDefEqProofs only [go_sem, lay, oneOr, List.take_succ_cons, List.take_zero, List.drop_succ_cons, List.drop_zero, List.nil_append, List.cons_append, Option.getD_some, Nat.reduceAdd, Nat.reduceLeDiff, List.append_nil, and_self, List.all_cons, List.all_nil])
 refine stk_pure (lnText_ok L false [stA, stB] (by decide) (fun x hx => ((parse_fits (by decide) awOk awParse).1 x hx).1) (fun x hx t ht => by
  have := List.all_eq_true.mp awLines x hx
  rw [ht] at this
  exact of_decide_eq_true this)) fun v hv => ?_
 subst hv
 rw [awText]
 unfold lnTextR
 (try simp +decide -implicitDefEqProofs only [go_sem, lay, oneOr, List.take_succ_cons, List.take_zero, List.drop_succ_cons, List.drop_zero, List.nil_append, List.cons_append, Option.getD_some, Nat.reduceAdd, Nat.reduceLeDiff, List.append_nil, and_self, List.all_cons, List.all_nil])
 refine stk_pure (play_ok L) fun v hv => ?_
 subst hv
 (try simp +decide -implicitDefEqProofs only [go_sem, stepCells, polCells, stA, stB, lay, oneOr, List.take_succ_cons, List.take_zero, List.drop_succ_cons, List.drop_zero, List.nil_append, List.cons_append, Option.getD_some, Nat.reduceAdd, Nat.reduceLeDiff, List.append_nil, and_self, List.all_cons, List.all_nil])
 refine aret_pure (.inr rfl) ?_; simp +decide only [retOf, tget, if_true, if_false, ↓reduceIte, List.map_cons, List.map_nil]
end Go.Proofs.YtfaodacmdlnabaaGreatDoor.M
