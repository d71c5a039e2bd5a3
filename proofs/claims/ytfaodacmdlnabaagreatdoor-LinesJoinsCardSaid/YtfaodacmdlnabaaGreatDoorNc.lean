/-
 The store, opened and read: walked, as far as no policy is followed.
-/
import Derived.Test.YtfaodacmdlnabaaGreatDoorNb
namespace Go.Proofs.YtfaodacmdlnabaaGreatDoor.M
open Go.RowKit
set_option linter.unusedVariables false
set_option linter.unusedSimpArgs false
abbrev All (H H' : AHeap) : Prop := ∀ c o, H c = some o → H' c = some o
theorem All.trans {H H' H2 : AHeap} (h : All H H') (k : All H' H2) : All H H2 := fun c o hc => k c o (h c o hc)
theorem All.new {H : AHeap} {b : Nat} {o : AObj} (h : H b = none) : All H (H.put b o) := fun c o' hc => Kept.new (bad := fun _ => False) h c o' hc (fun h => h)
theorem All.fresh {H H' : AHeap} {b : Nat} (h : All H H') (hb : H' b = none) : H b = none := by
 cases e : H b with
 | none => rfl
 | some o => have := h _ _ e; rw [hb] at this; cases this
def c_stChain : AFn := ⟨1, 41, [2],
 .seq (.ops [⟨(some 2), none, .q (.mv (.const (.slice none 0 0)))⟩])
 (.seq (.ops [⟨(some 3), none, .q (.mv (.const (.slice none 0 0)))⟩])
 (.seq (.seq (.ops [⟨(some 6), none, .q (.mv (.tmp 0))⟩,
   ⟨(some 7), none, .q (.nck (.tmp 6))⟩,
   ⟨(some 8), none, .q (.fad 3 1 (.tmp 7))⟩,
   ⟨(some 9), none, .q (.ld false 1 (.tmp 8))⟩,
   ⟨(some 10), none, .q (.len false (.tmp 9))⟩,
   ⟨(some 11), none, .q (.mv (.const (.int .i64 0)))⟩])
 (.block 0 (.loop (.seq (.ops [⟨(some 12), none, .q (.bin .lss .num (.tmp 11) (.tmp 10))⟩])
   (.seq (.cond (.tmp 12)
    (.skip)
    (.exit 0))
   (.seq (.block 1 (.seq (.ops [⟨(some 13), none, .q (.ixa 9 (.tmp 9) (.tmp 11))⟩,
      ⟨(some 14), none, .q (.ld true 9 (.tmp 13))⟩,
      ⟨(some 5), none, .e (.alloc 36 [(.int .i64 0), (.slice none 0 0), (.slice none 0 0), (.slice none 0 0), (.slice none 0 0), (.slice none 0 0), (.int .i64 0), (.int .i64 0), (.int .i64 0)])⟩,
      ⟨none, none, .e (.st 9 (.tmp 5) (.tmp 14))⟩])
    (.seq (.ops [⟨(some 15), none, .q (.fad 1 1 (.tmp 5))⟩,
      ⟨(some 16), none, .q (.ld false 1 (.tmp 15))⟩,
      ⟨(some 18), none, .q (.fad 2 1 (.tmp 5))⟩,
      ⟨(some 19), none, .q (.ld false 1 (.tmp 18))⟩,
      ⟨(some 17), none, .e (.callq 164 [(.tmp 16)])⟩,
      ⟨(some 21), none, .q (.fad 1 1 (.tmp 5))⟩,
      ⟨(some 20), none, .e (.call 164 [(.tmp 19)])⟩,
      ⟨none, none, .e (.st 1 (.tmp 21) (.tmp 17))⟩,
      ⟨(some 22), none, .q (.fad 2 1 (.tmp 5))⟩,
      ⟨none, none, .e (.st 1 (.tmp 22) (.tmp 20))⟩])
    (.seq (.ops [⟨(some 23), none, .q (.fad 3 1 (.tmp 5))⟩,
      ⟨(some 24), none, .q (.ld false 1 (.tmp 23))⟩,
      ⟨(some 26), none, .q (.fad 4 1 (.tmp 5))⟩,
      ⟨(some 27), none, .q (.ld false 1 (.tmp 26))⟩,
      ⟨(some 29), none, .q (.fad 5 1 (.tmp 5))⟩,
      ⟨(some 30), none, .q (.ld false 1 (.tmp 29))⟩,
      ⟨(some 25), none, .e (.callq 164 [(.tmp 24)])⟩,
      ⟨(some 32), none, .q (.fad 3 1 (.tmp 5))⟩,
      ⟨(some 28), none, .e (.callq 164 [(.tmp 27)])⟩,
      ⟨(some 31), none, .e (.call 164 [(.tmp 30)])⟩,
      ⟨none, none, .e (.st 1 (.tmp 32) (.tmp 25))⟩,
      ⟨(some 33), none, .q (.fad 4 1 (.tmp 5))⟩,
      ⟨none, none, .e (.st 1 (.tmp 33) (.tmp 28))⟩,
      ⟨(some 34), none, .q (.fad 5 1 (.tmp 5))⟩,
      ⟨none, none, .e (.st 1 (.tmp 34) (.tmp 31))⟩])
    (.ops [⟨(some 35), none, .q (.mv (.tmp 3))⟩,
      ⟨(some 36), none, .q (.ld true 9 (.tmp 5))⟩,
      ⟨(some 37), none, .e (.bsl 36 9 [(.tmp 36)])⟩,
      ⟨(some 38), none, .e (.app 36 9 152 false (.tmp 35) (.tmp 37))⟩,
      ⟨(some 3), none, .q (.mv (.tmp 38))⟩])))))
   (.ops [⟨(some 39), none, .q (.bin .add .num (.tmp 11) (.const (.int .i64 1)))⟩,
     ⟨(some 11), none, .q (.mv (.tmp 39))⟩])))))))
 (.seq (.ops [⟨(some 40), none, .q (.mv (.tmp 3))⟩,
   ⟨(some 2), none, .q (.mv (.tmp 40))⟩])
 (.ret)))), []⟩
theorem k_stChain : compF Tryz.prog 128 = some c_stChain := by kernel_rfl
theorem stChain_ok {W : World} {H : AHeap} {s l d ps st used : Nat} {pl : List (Str × Nat × AVal)} (h : Sto H s l d ps st used pl) : ACalls Tryz.prog W 128 [ptr s] H fun v H' => v = .v (.slice none 0 0) ∧ H' = H := by
 have hg := h.here
 unfold stoCells at hg
 refine fn_run follows k_stChain rfl ?_
 simp only [oq, og, oe, oh, on, c_stChain, aretC_nil, List.zipIdx_cons, List.zipIdx_nil, List.map_cons, List.map_nil, Nat.zero_add]
 (try simp +decide -implicitDefEqProofs only [go_sem, hg, lay, oneOr, List.take_succ_cons, List.take_zero, List.drop_succ_cons, List.drop_zero, List.nil_append, List.cons_append, Option.getD_some, Nat.reduceAdd, Nat.reduceLeDiff, List.append_nil, and_self, List.all_cons, List.all_nil])
 refine stk_up (α := Unit) 0 (fun i _ => ⟨[(11, .v (.int .i64 0)), (10, .v (.int .i64 0)), (3, .v (.slice none 0 0))], H⟩) (fun _ _ => True) () (Weak.list _ (Sub.refl _) (by (try simp +decide -implicitDefEqProofs only [go_sem]))) trivial ?_
 rintro i ⟨⟩ hi -
 have d0 : decide ((0 : Int) < 0) = false := by decide
 (try simp +decide -implicitDefEqProofs only [go_sem, d0, lay, oneOr, List.take_succ_cons, List.take_zero, List.drop_succ_cons, List.drop_zero, List.nil_append, List.cons_append, Option.getD_some, Nat.reduceAdd, Nat.reduceLeDiff, List.append_nil, and_self, List.all_cons, List.all_nil])
 exact ⟨.inr rfl, _, _, Sub.refl _, .refl _, rfl, rfl⟩
/-- An append: its block is the row's own, or a new one. -/
theorem stk_appF {P : Program} {W : World} {k : List Item} {Q : Exit → AState → Prop} {s : AState} {d : Option Nat} {E sz b : Nat} {st : Bool} {x y : Operand} {r : List AOper} {rows new : List (List AVal)} (hr : RowO s.H E sz (ev s.tm x) rows) (hs : srcOf s.H sz (ev s.tm y) = some new) (hb : (rows.length + new.length) * b ≤ 140737488355328)
  (hK : ∀ x' H', RowO H' E sz x' (rows ++ new) → Rest s.H H' (ev s.tm x) → (∀ c, blkOf x' = some c → blkOf (ev s.tm x) = some c ∨ s.H c = none) → stk P W (.ops r :: k) Q .normal ((⟨s.tm, H'⟩ : AState).put d x')) : stk P W (.ops (⟨d, none, .e (.app E sz b st x y)⟩ :: r) :: k) Q .normal s := by
 show rops P W (⟨d, none, .e (.app E sz b st x y)⟩ :: r) s _
 refine ⟨new, hs, ?_⟩
 generalize hX : ev s.tm x = X at hr hK ⊢
 cases hr with
 | nil =>
  refine ⟨fun e => ⟨rfl, ?_⟩, fun hne => ⟨by simpa using hb, fun g hg => ?_⟩⟩
  ·subst e; exact hK _ _ .nil (fun b o h _ => h) (fun c e => by cases e)
  ·exact hK _ _ (.bs (put_self _ _ _) (by simp)) (fun b o h _ => (put_ne _ _ (fun e => by rw [e, hg] at h; cases h)).trans h) (fun c e => by cases e; exact .inr hg)
 | @bs g n _ hg hn =>
  refine ⟨fun e => ⟨rfl, ?_⟩, fun hne => ?_⟩
  ·subst e; exact hK _ _ (.bs (by simpa using hg) (by simpa using hn)) (fun b o h _ => h) (fun c e => .inl e)
  ·simp only [hg]
   refine ⟨⟨trivial, trivial, trivial, by omega, by rw [hn]; exact hb⟩, fun g' hg' => ?_⟩
   have ht : rows.take n = rows := by rw [hn, List.take_length]
   rw [ht]
   refine hK _ _ (.bs (put_self _ _ _) (by simp [hn])) (fun b o h hne2 => ?_) (fun c e => ?_)
   ·have hbg : b ≠ g := fun e => hne2 (by rw [e]; rfl)
    have hd : (s.H.del g) b = s.H b := by simp [AHeap.del, hbg]
    rw [put_ne, hd]; exact h
    intro e; rw [e] at hd; rw [hd, ← e, h] at hg'; cases hg'
   ·cases e
    by_cases e2 : g' = g
    ·exact .inl (by rw [e2]; rfl)
    ·right; simpa [AHeap.del, e2] using hg'
def keptZ : AVal := .agg [.v (.string ByteArray.empty), .v (.string ByteArray.empty), .v (.int .i64 0), .v (.string ByteArray.empty)]
def c_stGet : AFn := ⟨2, 19, [19, 5],
 .seq (.ops [oe 4 (.alloc 165 [(.string ByteArray.empty), (.string ByteArray.empty), (.int .i64 0), (.string ByteArray.empty)]),
   oq 5 (.mv (.const (.bool false)))])
 (.seq (.ops [oq 9 (.mv (.tmp 0)),
   oq 10 (.nck (.tmp 9)),
   oq 11 (.fad 1 1 (.tmp 10)),
   oq 12 (.ld false 1 (.tmp 11)),
   oq 13 (.mv (.tmp 1)),
   oq 14 (.lk none true (.agg #[(.string ByteArray.empty), (.string ByteArray.empty), (.int .i64 0), (.string ByteArray.empty)]) (.tmp 12) (.tmp 13)),
   oq 8 (.mv (.tmp 14)),
   oq 15 (.ext (.tmp 8) 0),
   oq 16 (.ext (.tmp 8) 1),
   oe 6 (.alloc 165 [(.string ByteArray.empty), (.string ByteArray.empty), (.int .i64 0), (.string ByteArray.empty)]),
   on (.st 4 (.tmp 6) (.tmp 15)),
   oq 7 (.mv (.tmp 16))])
 (.seq (.ops [oq 17 (.ld true 4 (.tmp 6)),
   oq 18 (.mv (.tmp 7)),
   on (.st 4 (.tmp 4) (.tmp 17)),
   oq 5 (.mv (.tmp 18))])
 (.ret))), [(19, (4, (true, 4)))]⟩
theorem k_stGet : compF Tryz.prog 126 = some c_stGet := by kernel_rfl
set_option maxHeartbeats 1000000 in
theorem stGet_ok {W : World} {H : AHeap} {s l d ps st used : Nat} {pl : List (Str × Nat × AVal)} (h : Sto H s l d ps st used pl) (id : Str) : ACalls Tryz.prog W 126 [ptr s, .v (.string id)] H fun v H' => v = .tup [(sget id pl).getD keptZ, .v (.bool (sget id pl).isSome)] ∧ All H H' := by
 have hg := h.here
 unfold stoCells at hg
 obtain ⟨pc, hp, hn⟩ := h.posts
 have k0 : kOk none (.string id) = true := rfl
 have hz : zeroA (.agg #[.string ByteArray.empty, .string ByteArray.empty, .int .i64 0, .string ByteArray.empty]) = keptZ := rfl
 obtain ⟨a, b', c, e, hq⟩ : ∃ (a b : Str) (c : Int) (e : Str), (sget id pl).getD keptZ = .agg [.v (.string a), .v (.string b), .v (.int .i64 c), .v (.string e)] := by
  cases e : sget id pl with
  | none => exact ⟨_, _, _, _, rfl⟩
  | some v =>
   obtain ⟨e', he, h1, h2⟩ := sget_mem e
   obtain ⟨r, h3, _⟩ := h.kv e' he
   subst h2
   rw [h3]
   exact ⟨_, _, _, _, rfl⟩
 refine fn_run follows k_stGet rfl ?_
 simp only [oq, og, oe, oh, on, c_stGet, aretC_nil, List.zipIdx_cons, List.zipIdx_nil, List.map_cons, List.map_nil, Nat.zero_add]
 (try simp +decide -implicitDefEqProofs only [go_sem, lay, oneOr, List.take_succ_cons, List.take_zero, List.drop_succ_cons, List.drop_zero, List.nil_append, List.cons_append, Option.getD_some, Nat.reduceAdd, Nat.reduceLeDiff, List.append_nil, and_self, List.all_cons, List.all_nil])
 rw [stk_alloc]
 intro x hx
 have hx : H x = none := hx
 have hk1 := All.new (o := .cells 165 [.v (.string ByteArray.empty), .v (.string ByteArray.empty), .v (.int .i64 0), .v (.string ByteArray.empty)]) hx
 have hg1 := hk1 _ _ hg
 have hp1 := hk1 _ _ hp
 (try simp +decide -implicitDefEqProofs only [go_sem, hg1, hp1, smap_ok, mget_smap, hz, hq, k0, lay, oneOr, List.take_succ_cons, List.take_zero, List.drop_succ_cons, List.drop_zero, List.nil_append, List.cons_append, Option.getD_some, Nat.reduceAdd, Nat.reduceLeDiff, List.append_nil, and_self, List.all_cons, List.all_nil])
 rw [stk_alloc]
 intro y hy
 obtain ⟨hyx, hy0⟩ := put_none (show (H.put x _) y = none from hy)
 have e1 : ∀ o o', ((H.put x o).put y o') x = some o := fun o o' => (put_ne _ _ (Ne.symm hyx)).trans (put_self _ _ _)
 (try simp +decide -implicitDefEqProofs only [go_sem, hp_self, hp_hp, e1, lay, oneOr, List.take_succ_cons, List.take_zero, List.drop_succ_cons, List.drop_zero, List.nil_append, List.cons_append, Option.getD_some, Nat.reduceAdd, Nat.reduceLeDiff, List.append_nil, and_self, List.all_cons, List.all_nil])
 refine aretC_one (by (try simp +decide -implicitDefEqProofs only [go_sem, hp_self, lay, oneOr, List.take_succ_cons, List.take_zero, List.drop_succ_cons, List.drop_zero, List.nil_append, List.cons_append, Option.getD_some, Nat.reduceAdd, Nat.reduceLeDiff, List.append_nil, and_self, List.all_cons, List.all_nil])) ?_
 (try simp +decide -implicitDefEqProofs only [go_sem, hp_self, lay, oneOr, List.take_succ_cons, List.take_zero, List.drop_succ_cons, List.drop_zero, List.nil_append, List.cons_append, Option.getD_some, Nat.reduceAdd, Nat.reduceLeDiff, List.append_nil, and_self, List.all_cons, List.all_nil])
 refine ⟨.inr rfl, _, _, Sub.refl _, .refl _, rfl, fun c o hc => ?_⟩
 have hcx : c ≠ x := fun e => by rw [e, hx] at hc; cases hc
 have hcy : c ≠ y := fun e => by rw [e, hy0] at hc; cases hc
 simp [put_ne _ _ hcx, put_ne _ _ hcy, hc]
def c_stIDs : AFn := ⟨1, 21, [2],
 .seq (.ops [oq 2 (.mv (.const (.slice none 0 0)))])
 (.seq (.ops [oq 3 (.mv (.const (.slice none 0 0)))])
 (.seq (.seq (.ops [oq 5 (.mv (.tmp 0)),
   oq 6 (.nck (.tmp 5)),
   oq 7 (.fad 1 1 (.tmp 6)),
   oq 8 (.ld false 1 (.tmp 7)),
   oe 9 (.rg (.tmp 8))])
 (.block 0 (.loop (.seq (.ops [oe 10 (.nx (.tmp 9)),
     oq 11 (.ext (.tmp 10) 0)])
   (.seq (.cond (.tmp 11)
    (.skip)
    (.exit 0))
   (.block 1 (.seq (.ops [oq 12 (.men (.tmp 9)),
      oq 13 (.ext (.tmp 12) 0),
      oq 4 (.mv (.tmp 13))])
    (.ops [oq 14 (.mv (.tmp 3)),
      oq 15 (.mv (.tmp 4)),
      oe 16 (.bsl 9 1 [(.tmp 15)]),
      oe 17 (.app 9 1 16 false (.tmp 14) (.tmp 16)),
      oq 3 (.mv (.tmp 17))]))))))))
 (.seq (.ops [oq 18 (.mv (.tmp 3)),
   oe 19 (.call 169 [(.tmp 18)])])
 (.seq (.ops [oq 20 (.mv (.tmp 3)),
   oq 2 (.mv (.tmp 20))])
 (.ret))))), []⟩
theorem k_stIDs : compF Tryz.prog 163 = some c_stIDs := by kernel_rfl
set_option maxHeartbeats 1000000 in
theorem stIDs_ok {W : World} {H : AHeap} {s l0 d ps st used : Nat} {l : List (Str × Nat × AVal)} (h : Sto H s l0 d ps st used l) : ACalls Tryz.prog W 163 [ptr s] H fun v H' => RowO H' 9 1 v (strRows (sortS (l.map (·.1)))) ∧ All H H' ∧ ∀ b, blkOf v = some b → H b = none := by
 have hg := h.here
 unfold stoCells at hg
 obtain ⟨c, hm, hn⟩ := h.posts
 have hl := h.few
 generalize hps : ps = m at hg hm
 refine fn_run follows k_stIDs rfl ?_
 simp only [oq, og, oe, oh, on, c_stIDs, aretC_nil, List.zipIdx_cons, List.zipIdx_nil, List.map_cons, List.map_nil, Nat.zero_add]
 (try simp +decide -implicitDefEqProofs only [go_sem, hg, lay, oneOr, List.take_succ_cons, List.take_zero, List.drop_succ_cons, List.drop_zero, List.nil_append, List.cons_append, Option.getD_some, Nat.reduceAdd, Nat.reduceLeDiff, List.append_nil, and_self, List.all_cons, List.all_nil])
 refine stk_rg (b := m) (c := c) (l := smap l) rfl hm fun p hp => ?_
 have hp : H p = none := hp
 have hpm : m ≠ p := ne_of_some hm hp
 (try simp +decide -implicitDefEqProofs only [go_sem])
 refine stk_loop (fun n s => ∃ (done : List (Str × Nat × AVal)) (x : AVal) (H' : AHeap), done.length + n = l.length ∧ (done.map (·.1)).Nodup ∧ (∀ e ∈ done, e ∈ l) ∧ RowO H' 9 1 x (strRows (done.map (·.1))) ∧ H' p = some (.it m c (done.map (·.2.1)) c) ∧ H' m = some (.mp (smap l) c) ∧ All H H' ∧ (∀ b, blkOf x = some b → H b = none) ∧
  s = ⟨[(9, .v (.pointer (some ⟨p, 0, none⟩))), (3, x)], H'⟩) l.length _ (Weak.list [(9, .v (.pointer (some ⟨p, 0, none⟩))), (3, .v (.slice none 0 0))] (Sub.refl _) (by (try simp +decide -implicitDefEqProofs only [go_sem]))) ⟨[], .v (.slice none 0 0), _, by simp, by simp, by simp, RowO.nil, put_self _ _ _, by rw [put_ne _ _ hpm]; exact hm, All.new hp, fun b e => (by cases e), rfl⟩ ?_
 rintro n s ⟨done, x, H', hlen, hnd, hsub, hrow, hHp, hHm, hall0, hfr, rfl⟩
 have hlt : ∀ e ∈ smap l, e.2.1 < c := by
  intro e he
  obtain ⟨e', he', rfl⟩ := List.mem_map.1 he
  exact hn.lt e' he'
 (try simp +decide -implicitDefEqProofs only [go_sem])
 refine stk_nx (p := p) (m := m) (since := c) (c0 := c) (c := c) (seen := done.map (·.2.1)) (l := smap l) rfl hHp hHm hlt (Nat.le_refl _) (fun hall => ?_) (fun e he hnew => ?_)
 ·have hsame : sortS (done.map (·.1)) = sortS (l.map (·.1)) := by
   refine rises_eq (sortS_strict hnd) (sortS_strict hn.keys) fun z => ?_
   rw [(sortS_perm _).mem_iff, (sortS_perm _).mem_iff]
   constructor
   ·intro hz
    obtain ⟨e, he, rfl⟩ := List.mem_map.1 hz
    exact List.mem_map.2 ⟨e, hsub e he, rfl⟩
   ·intro hz
    obtain ⟨e, he, rfl⟩ := List.mem_map.1 hz
    obtain ⟨d, hd, hdb⟩ := List.mem_map.1 (hall (.string e.1, e.2.1, e.2.2) (List.mem_map.2 ⟨e, he, rfl⟩))
    have : d = e := inj_of_nodup hn.born (hsub d hd) he hdb
    exact List.mem_map.2 ⟨d, hd, by rw [this]⟩
  have hln : done.length ≤ 1000000 := by omega
  (try simp +decide -implicitDefEqProofs only [go_sem])
  refine stk_call (sort_row Lay.slices_Sort_string Lay.slices_Sort_string_none (l := done.map (·.1)) hrow (by simp; omega)) fun v H2 hv => ?_
  (try simp +decide -implicitDefEqProofs only [go_sem])
  refine ⟨.inr rfl, _, _, Sub.refl _, .refl _, ?_, fun b o hb => ?_, hfr⟩
  ·rw [← hsame]; exact hv.1
  ·exact (hv.2 b (fun e => by rw [hfr b e] at hb; cases hb)).trans (hall0 b o hb)
 ·obtain ⟨e', he', rfl⟩ := List.mem_map.1 he
  have hment := ment_ok (H := H'.put p (.it m c (done.map (·.2.1) ++ [e'.2.1]) c)) hn.born he' (put_self _ _ _) (by rw [put_ne _ _ hpm]; exact hHm)
  have hoff : blkOf x ≠ some p := hrow.off hHp (fun _ _ _ h => by cases h)
  have hoffm : blkOf x ≠ some m := hrow.off hHm (fun _ _ _ h => by cases h)
  have hnew' : e'.1 ∉ done.map (·.1) := by
   intro hz
   obtain ⟨d, hd, hdk⟩ := List.mem_map.1 hz
   have : d = e' := inj_of_nodup hn.keys (hsub d hd) he' hdk
   exact hnew (List.mem_map.2 ⟨d, hd, by rw [this]⟩)
  have hnd' : ((done ++ [e']).map (·.1)).Nodup := by
   rw [List.map_append, List.nodup_append]
   exact ⟨hnd, by simp, fun a ha b hb => by simp at hb; subst hb; intro e; subst e; exact hnew' ha⟩
  have hsub' : ∀ e ∈ done ++ [e'], e ∈ l := by
   intro e he
   rcases List.mem_append.1 he with h | h
   ·exact hsub e h
   ·simp at h; subst h; exact he'
  have hle : (done ++ [e']).length ≤ l.length := by
   have := nodup_len hnd' (m := l.map (·.1)) (fun z hz => by obtain ⟨e, he, rfl⟩ := List.mem_map.1 hz; exact List.mem_map.2 ⟨e, hsub' e he, rfl⟩)
   simpa using this
  have hle2 : done.length + 1 ≤ l.length := by simpa using hle
  (try simp +decide -implicitDefEqProofs only [go_sem, hment])
  refine stk_appF (rows := strRows (done.map (·.1))) (hrow.put hoff) (by rfl) (by simp only [strRows_len, List.length_map, List.length_cons, List.length_nil]; omega) fun x2 H2 hr2 hrest hfr2 => ?_
  (try simp +decide -implicitDefEqProofs only [go_sem])
  have hp2 : H2 p = some (.it m c ((done ++ [e']).map (·.2.1)) c) := by
   rw [List.map_append]; exact hrest p _ (put_self _ _ _) hoff
  have hm2 : H2 m = some (.mp (smap l) c) := hrest m _ ((put_ne H' (.it m c (done.map (·.2.1) ++ [e'.2.1]) c) hpm).trans hHm) hoffm
  refine ⟨n - 1, _, by omega, Weak.list [(9, .v (.pointer (some ⟨p, 0, none⟩))), (3, x2)] (Sub.refl _) (by (try simp +decide -implicitDefEqProofs only [go_sem])), done ++ [e'], x2, H2, by simp; omega, hnd', hsub', ?_, hp2, hm2, fun b o hb => ?_, fun b hb => ?_, rfl⟩
  ·simpa [strRows, strRow] using hr2
  ·have hbp : b ≠ p := fun e => by rw [e, hp] at hb; cases hb
   exact hrest b o ((put_ne _ _ hbp).trans (hall0 b o hb)) (fun e => by rw [hfr b e] at hb; cases hb)
  ·rcases hfr2 b hb with h | h
   ·exact hfr b h
   ·exact hall0.fresh (put_none h).2
def c_stOpen : AFn := ⟨1, 36, [2, 3],
 .seq (.ops [oq 2 (.mv (.const (.pointer none))),
   oq 3 (.mv (.const (.int .i64 0)))])
 (.seq (.ops [oq 11 (.mv (.tmp 0)),
   oe 12 (.call 122 [(.tmp 11)]),
   oq 10 (.mv (.tmp 12)),
   oq 13 (.ext (.tmp 10) 0),
   oq 14 (.ext (.tmp 10) 1),
   oq 15 (.ext (.tmp 10) 2),
   oq 4 (.mv (.tmp 13)),
   oq 5 (.mv (.tmp 14)),
   oq 6 (.mv (.tmp 15))])
 (.seq (.seq (.ops [oq 16 (.mv (.tmp 6)),
   oq 17 (.bin .neq .num (.tmp 16) (.const (.int .i64 0)))])
 (.cond (.tmp 17)
  (.seq (.ops [oq 18 (.mv (.tmp 6)),
    oq 2 (.mv (.const (.pointer none))),
    oq 3 (.mv (.tmp 18))])
  (.ret))
  (.skip)))
 (.seq (.ops [oq 19 (.mv (.tmp 4)),
   oe 20 (.mk),
   oe 21 (.mk),
   oq 22 (.bld [(.pointer none), (.map none), (.map none), (.slice none 0 0)] [(0, 1, (.tmp 19)), (1, 1, (.tmp 20)), (2, 1, (.tmp 21))]),
   oe 23 (.box 161 (.tmp 22)),
   oq 7 (.mv (.tmp 23))])
 (.seq (.seq (.ops [oq 24 (.mv (.tmp 5)),
   oq 25 (.len false (.tmp 24)),
   oq 26 (.mv (.const (.int .i64 0)))])
 (.block 0 (.loop (.seq (.ops [oq 27 (.bin .lss .num (.tmp 26) (.tmp 25))])
   (.seq (.cond (.tmp 27)
    (.skip)
    (.exit 0))
   (.seq (.block 1 (.seq (.ops [oq 28 (.ixa 1 (.tmp 24) (.tmp 26)),
      oq 29 (.ld false 1 (.tmp 28)),
      oq 9 (.mv (.tmp 29))])
    (.seq (.ops [oq 30 (.mv (.tmp 7)),
      oq 31 (.mv (.tmp 9)),
      oe 32 (.call 123 [(.tmp 30), (.tmp 31)]),
      oq 33 (.un .not (.tmp 32))])
    (.cond (.tmp 33)
     (.seq (.ops [oq 2 (.mv (.const (.pointer none))),
       oq 3 (.mv (.const (.int .i64 2)))])
     (.ret))
     (.skip)))))
   (.ops [oq 34 (.bin .add .num (.tmp 26) (.const (.int .i64 1))),
     oq 26 (.mv (.tmp 34))])))))))
 (.seq (.ops [oq 35 (.mv (.tmp 7)),
   oq 2 (.mv (.tmp 35)),
   oq 3 (.mv (.const (.int .i64 0)))])
 (.ret)))))), []⟩
theorem k_stOpen : compF Tryz.prog 77 = some c_stOpen := by kernel_rfl
set_option maxHeartbeats 1000000 in
theorem stOpen_ok {W : World} {H : AHeap} {d : Nat} {n : Int} (h : DevH H d (.v (.slice none 0 0)) [] n) : ACalls Tryz.prog W 77 [ptr d] H fun v H' => ∃ s l ps st, v = .tup [ptr s, .v (.int .i64 0)] ∧ Sto H' s l d ps st 0 [] ∧ All H H' := by
 refine fn_run follows k_stOpen rfl ?_
 simp only [oq, og, oe, oh, on, c_stOpen, aretC_nil, List.zipIdx_cons, List.zipIdx_nil, List.map_cons, List.map_nil, Nat.zero_add]
 (try simp +decide -implicitDefEqProofs only [go_sem, lay, oneOr, List.take_succ_cons, List.take_zero, List.drop_succ_cons, List.drop_zero, List.nil_append, List.cons_append, Option.getD_some, Nat.reduceAdd, Nat.reduceLeDiff, List.append_nil, and_self, List.all_cons, List.all_nil])
 refine stk_call (flOpen_ok h) fun v H1 hv => ?_
 obtain ⟨l, rfl, hln, hl1, hk1⟩ := hv
 have hk1 : All H H1 := fun c o hc => hk1 c o hc (fun h => h)
 (try simp +decide -implicitDefEqProofs only [go_sem, ne_eq, not_true_eq_false, lay, oneOr, List.take_succ_cons, List.take_zero, List.drop_succ_cons, List.drop_zero, List.nil_append, List.cons_append, Option.getD_some, Nat.reduceAdd, Nat.reduceLeDiff, List.append_nil, and_self, List.all_cons, List.all_nil])
 intro ps hps
 have hps : H1 ps = none := hps
 (try simp +decide -implicitDefEqProofs only [go_sem, lay, oneOr, List.take_succ_cons, List.take_zero, List.drop_succ_cons, List.drop_zero, List.nil_append, List.cons_append, Option.getD_some, Nat.reduceAdd, Nat.reduceLeDiff, List.append_nil, and_self, List.all_cons, List.all_nil])
 intro st hst
 obtain ⟨hsp, hst0⟩ := put_none (show (H1.put ps _) st = none from hst)
 (try simp +decide -implicitDefEqProofs only [go_sem, lay, oneOr, List.take_succ_cons, List.take_zero, List.drop_succ_cons, List.drop_zero, List.nil_append, List.cons_append, Option.getD_some, Nat.reduceAdd, Nat.reduceLeDiff, List.append_nil, and_self, List.all_cons, List.all_nil])
 rw [stk_box]
 refine ⟨by rfl, fun s hs => ?_⟩
 obtain ⟨hs2, hs1⟩ := put_none (show ((H1.put ps _).put st _) s = none from hs)
 obtain ⟨hs3, hs0⟩ := put_none hs1
 have hb : ∀ c o, H1 c = some o → ∀ x y z, (((H1.put ps x).put st y).put s z) c = some o := fun c o hc x y z => by
  have c1 : c ≠ ps := fun e => by rw [e, hps] at hc; cases hc
  have c2 : c ≠ st := fun e => by rw [e, hst0] at hc; cases hc
  have c3 : c ≠ s := fun e => by rw [e, hs0] at hc; cases hc
  rw [put_ne _ _ c3, put_ne _ _ c2, put_ne _ _ c1]; exact hc
 have hd1 := h.kept hk1
 have hsto : Sto (((H1.put ps (.mp [] 0)).put st (.mp [] 0)).put s (.cells tStore (stoCells l ps st))) s l d ps st 0 [] :=
  ⟨put_self _ _ _, hb _ _ hl1 _ _ _, ⟨_, _, _, ⟨hb _ _ hd1.here _ _ _, .nil, hd1.few⟩, by simp⟩, ⟨0, by rw [put_ne _ _ (Ne.symm hs3), put_ne _ _ (Ne.symm hsp), put_self]; rfl, Neat.nil⟩, ⟨[], 0, by rw [put_ne _ _ (Ne.symm hs2), put_self]; rfl⟩, by simp, by simp, Ne.symm hsp, [], 0, by rw [put_ne _ _ (Ne.symm hs2), put_self]; rfl, by simp⟩
 have hall : All H (((H1.put ps (.mp [] 0)).put st (.mp [] 0)).put s (.cells tStore (stoCells l ps st))) := fun c o hc => hb _ _ (hk1 c o hc) _ _ _
 unfold stoCells at hsto hall
 show stk _ _ _ _ _ (AState.put ⟨_, ((H1.put ps (.mp [] 0)).put st (.mp [] 0)).put s (.cells tStore [ptr l, .v (.map (some ps)), .v (.map (some st)), .v (.slice none 0 0)])⟩ _ _)
 generalize ((H1.put ps (.mp [] 0)).put st (.mp [] 0)).put s (.cells tStore [ptr l, .v (.map (some ps)), .v (.map (some st)), .v (.slice none 0 0)]) = H2 at hsto hall ⊢
 (try simp +decide -implicitDefEqProofs only [go_sem, lay, oneOr, List.take_succ_cons, List.take_zero, List.drop_succ_cons, List.drop_zero, List.nil_append, List.cons_append, Option.getD_some, Nat.reduceAdd, Nat.reduceLeDiff, List.append_nil, and_self, List.all_cons, List.all_nil])
 refine stk_up (α := Unit) 0 (fun i _ => ⟨[(26, .v (.int .i64 0)), (25, .v (.int .i64 0)), (7, ptr s)], H2⟩) (fun _ _ => True) () (Weak.list _ (Sub.refl _) (by (try simp +decide -implicitDefEqProofs only [go_sem]))) trivial ?_
 rintro i ⟨⟩ hi -
 have d0 : decide ((0 : Int) < 0) = false := by decide
 (try simp +decide -implicitDefEqProofs only [go_sem, d0, lay, oneOr, List.take_succ_cons, List.take_zero, List.drop_succ_cons, List.drop_zero, List.nil_append, List.cons_append, Option.getD_some, Nat.reduceAdd, Nat.reduceLeDiff, List.append_nil, and_self, List.all_cons, List.all_nil])
 exact ⟨.inr rfl, _, _, Sub.refl _, .refl _, s, l, ps, st, rfl, hsto, hall⟩
end Go.Proofs.YtfaodacmdlnabaaGreatDoor.M
