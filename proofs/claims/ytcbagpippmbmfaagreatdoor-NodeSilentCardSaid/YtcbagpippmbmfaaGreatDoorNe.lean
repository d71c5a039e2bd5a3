/-
  What a node answers to a digest: walked.
-/
import Derived.Test.YtcbagpippmbmfaaGreatDoorNd
namespace Go.Proofs.YtcbagpippmbmfaaGreatDoor.M
open Go.RowKit
attribute [local go_sem] stk_nil stk_skip stk_ops stk_seq stk_block stk_scope stk_exit stk_ret stk_code_exit stk_code_ret stk_ops_exit stk_ops_ret stk_endb stk_endb_exit stk_endb_ret stk_endl stk_endl_exit stk_endl_ret stk_ops_nil stk_q stk_niq niqA flip srcOf stk_bsl side val bside bval uside uval cside cval bndS bndV intA isInt lside lval fside fval faside faval iside ival sxside sxval sizeA slside slval llside llval lenside lenval lenA tupA mmside mmval nkside boolA isBool ev_t ev_c tget put_s put_n lkside lkval menval stk_mk Option.isSome_some isMapA mapA keyA FZ_rfl FZ_any retOf true_and and_true if_true if_false decide_true decide_false Bool.not_true Bool.not_false Nat.zero_add List.map_cons List.map_nil Int.toNat_natCast strRows_len intRows_len List.getD_cons_zero List.getD_cons_succ List.length_cons List.length_nil List.forall_mem_cons List.not_mem_nil false_implies implies_true Int.ofNat_zero Int.natCast_add Int.natCast_one Int.ofNat_one Int.natCast_zero isB isU Bool.false_eq_true beq_self_eq_true Bool.false_beq Bool.true_beq Int.natCast_nonneg undef strRows_take strRows_drop Int.toNat_zero List.drop_zero Bool.and_true oneOr List.all_cons List.all_nil AVal.one Value.oneCell' Bool.true_and List.take_length stk_st' stside stH hp_self hp_hp isnside isnval
set_option linter.unusedVariables false
set_option linter.unusedSimpArgs false
/-- A post's text, as it is kept. -/
def rawOf (pl : List (Str × Nat × AVal)) (id : Str) : Str := match sget id pl with
  | some (.agg (_ :: .v (.string r) :: _)) => r
  | _ => ByteArray.empty
theorem rawOf_cells {H : AHeap} {s l d ps st used : Nat} {pl : List (Str × Nat × AVal)} (h : Sto H s l d ps st used pl) (id : Str) : ∃ (a : Str) (c : Int) (e : Str), (sget id pl).getD keptZ = .agg [.v (.string a), .v (.string (rawOf pl id)), .v (.int .i64 c), .v (.string e)] := by
  unfold rawOf
  cases e : sget id pl with
  | none => exact ⟨_, _, _, rfl⟩
  | some v =>
    obtain ⟨e', he, h1, h2⟩ := sget_mem e
    obtain ⟨r, h3, _⟩ := h.kv e' he
    subst h2
    rw [h3]
    exact ⟨_, _, _, rfl⟩
theorem rawOf_size {H : AHeap} {s l d ps st used : Nat} {pl : List (Str × Nat × AVal)} (h : Sto H s l d ps st used pl) (id : Str) : (rawOf pl id).size ≤ 2000 := by
  unfold rawOf
  cases e : sget id pl with
  | none => simp [ByteArray.size_empty]
  | some v =>
    obtain ⟨e', he, h1, h2⟩ := sget_mem e
    obtain ⟨r, h3, h4, _⟩ := h.kv e' he
    subst h2
    rw [h3]
    exact h4
theorem intGood (l : List Int) : Good 1 (intRows l) := by
  intro r hr
  obtain ⟨x, _, rfl⟩ := List.mem_map.1 hr
  exact ⟨rfl, fun y hy => by simp [intRow] at hy; subst hy; rfl⟩
def sizesOf (pl : List (Str × Nat × AVal)) (l : List Str) : List Int := l.map fun id => ((rawOf pl id).size : Int)
def postRow (p : Str × Str) : List AVal := [.v (.string p.1), .v (.string p.2)]
def postRows (l : List (Str × Str)) : List (List AVal) := l.map postRow
def postsOf (pl : List (Str × Nat × AVal)) (l : List Str) : List (Str × Str) := l.map fun id => (id, rawOf pl id)
def postMsg (me : Int) (px : AVal) : List AVal := [.v (.int .i64 2), .v (.int .i64 me), .v (.int .i64 2), .v (.int .i64 0), nil, px, .v (.int .i64 0), nil, nil, nil, nil, nil, .v (.int .i64 0), .v (.int .i64 0), .v (.int .i64 0)]
abbrev tMsg : Nat := 41
abbrev tPost : Nat := 32
/-- What is answered: nothing, if nothing is lacked; else posts, the first of what is lacked. -/
def Answer (H : AHeap) (me : Int) (pl : List (Str × Nat × AVal)) (lacks : List Str) (Y : AVal) : Prop :=
  ∃ i, ShortIs 8000 (sizesOf pl lacks) lacks.length i ∧ ((lacks.take i).length = 0 ∧ Y = nil ∨ 0 < (lacks.take i).length ∧ ∃ px, RowO H tMsg 15 Y [postMsg me px] ∧ RowO H tPost 2 px (postRows (postsOf pl (lacks.take i))))
def c_nDig : AFn := ⟨2, 115, [4, 5],
  .seq (.ops [⟨(some 3), none, .e (.box 41 (.tmp 1))⟩,
      ⟨(some 4), none, .q (.mv (.const (.slice none 0 0)))⟩,
      ⟨(some 5), none, .q (.mv (.const (.int .i64 0)))⟩])
  (.seq (.seq (.ops [⟨(some 20), none, .q (.fad 4 1 (.tmp 3))⟩,
      ⟨(some 22), none, .q (.mv (.tmp 0))⟩])
  (.both (.ops [⟨(some 21), none, .q (.ld false 1 (.tmp 20))⟩,
        ⟨(some 23), none, .e (.call 13 [(.tmp 22)])⟩,
        ⟨(some 24), none, .e (.call 72 [(.tmp 21), (.tmp 23)])⟩,
        ⟨(some 6), none, .q (.mv (.tmp 24))⟩])
  (.ops [⟨(some 23), none, .e (.call 13 [(.tmp 22)])⟩,
        ⟨(some 21), none, .q (.ld false 1 (.tmp 20))⟩,
        ⟨(some 24), none, .e (.call 72 [(.tmp 21), (.tmp 23)])⟩,
        ⟨(some 6), none, .q (.mv (.tmp 24))⟩])))
  (.seq (.ops [⟨(some 7), none, .q (.mv (.const (.slice none 0 0)))⟩])
  (.seq (.seq (.ops [⟨(some 25), none, .q (.mv (.tmp 6))⟩,
      ⟨(some 26), none, .q (.len false (.tmp 25))⟩,
      ⟨(some 27), none, .q (.mv (.const (.int .i64 0)))⟩])
  (.block 0 (.loop (.seq (.ops [⟨(some 28), none, .q (.bin .lss .num (.tmp 27) (.tmp 26))⟩])
      (.seq (.cond (.tmp 28)
        (.skip)
        (.exit 0))
      (.seq (.block 1 (.seq (.ops [⟨(some 29), none, .q (.ixa 1 (.tmp 25) (.tmp 27))⟩,
            ⟨(some 30), none, .q (.ld false 1 (.tmp 29))⟩,
            ⟨(some 9), none, .q (.mv (.tmp 30))⟩])
        (.seq (.ops [⟨(some 32), none, .q (.mv (.tmp 0))⟩,
            ⟨(some 33), none, .q (.nck (.tmp 32))⟩,
            ⟨(some 34), none, .q (.fad 1 1 (.tmp 33))⟩,
            ⟨(some 35), none, .q (.ld false 1 (.tmp 34))⟩,
            ⟨(some 36), none, .q (.mv (.tmp 9))⟩,
            ⟨(some 37), none, .e (.call 73 [(.tmp 35), (.tmp 36)])⟩,
            ⟨(some 31), none, .q (.mv (.tmp 37))⟩,
            ⟨(some 38), none, .q (.ext (.tmp 31) 0)⟩,
            ⟨(some 39), none, .q (.ext (.tmp 31) 1)⟩,
            ⟨(some 10), none, .e (.alloc 111 [(.string ByteArray.empty), (.string ByteArray.empty), (.int .i64 0), (.string ByteArray.empty)])⟩,
            ⟨none, none, .e (.st 4 (.tmp 10) (.tmp 38))⟩,
            ⟨(some 11), none, .q (.mv (.tmp 39))⟩])
        (.ops [⟨(some 40), none, .q (.mv (.tmp 7))⟩,
            ⟨(some 41), none, .q (.fad 1 1 (.tmp 10))⟩,
            ⟨(some 42), none, .q (.ld false 1 (.tmp 41))⟩,
            ⟨(some 43), none, .q (.len true (.tmp 42))⟩,
            ⟨(some 44), none, .e (.bsl 3 1 [(.tmp 43)])⟩,
            ⟨(some 45), none, .e (.app 3 1 8 false (.tmp 40) (.tmp 44))⟩,
            ⟨(some 7), none, .q (.mv (.tmp 45))⟩]))))
      (.ops [⟨(some 46), none, .q (.bin .add .num (.tmp 27) (.const (.int .i64 1)))⟩,
          ⟨(some 27), none, .q (.mv (.tmp 46))⟩])))))))
  (.seq (.ops [⟨(some 12), none, .q (.mv (.const (.slice none 0 0)))⟩])
  (.seq (.seq (.ops [⟨(some 47), none, .q (.mv (.tmp 6))⟩,
      ⟨(some 48), none, .q (.mv (.tmp 7))⟩,
      ⟨(some 49), none, .e (.call 74 [(.tmp 47), (.tmp 48), (.const (.int .i64 8000))])⟩,
      ⟨(some 13), none, .q (.mv (.tmp 49))⟩])
  (.seq (.ops [⟨(some 50), none, .q (.mv (.tmp 13))⟩,
      ⟨(some 51), none, .q (.len false (.tmp 50))⟩,
      ⟨(some 52), none, .q (.bin .gtr .num (.tmp 51) (.const (.int .i64 0)))⟩])
  (.cond (.tmp 52)
    (.seq (.ops [⟨(some 53), none, .q (.mv (.tmp 0))⟩,
        ⟨(some 54), none, .q (.nck (.tmp 53))⟩,
        ⟨(some 55), none, .q (.fad 0 1 (.tmp 54))⟩,
        ⟨(some 56), none, .q (.ld false 1 (.tmp 55))⟩,
        ⟨(some 57), none, .q (.fad 1 1 (.tmp 3))⟩,
        ⟨(some 58), none, .q (.ld false 1 (.tmp 57))⟩,
        ⟨(some 59), none, .q (.bld [(.int .i64 0), (.int .i64 0), (.int .i64 0), (.int .i64 0), (.slice none 0 0), (.slice none 0 0), (.int .i64 0), (.slice none 0 0), (.slice none 0 0), (.slice none 0 0), (.slice none 0 0), (.slice none 0 0), (.int .i64 0), (.int .i64 0), (.int .i64 0)] [(0, 1, (.const (.int .i64 2))), (1, 1, (.tmp 56)), (2, 1, (.tmp 58))])⟩,
        ⟨(some 14), none, .e (.alloc 41 [(.int .i64 0), (.int .i64 0), (.int .i64 0), (.int .i64 0), (.slice none 0 0), (.slice none 0 0), (.int .i64 0), (.slice none 0 0), (.slice none 0 0), (.slice none 0 0), (.slice none 0 0), (.slice none 0 0), (.int .i64 0), (.int .i64 0), (.int .i64 0)])⟩,
        ⟨none, none, .e (.st 15 (.tmp 14) (.tmp 59))⟩])
    (.seq (.seq (.ops [⟨(some 60), none, .q (.mv (.tmp 13))⟩,
        ⟨(some 61), none, .q (.len false (.tmp 60))⟩,
        ⟨(some 62), none, .q (.mv (.const (.int .i64 0)))⟩])
    (.block 2 (.loop (.seq (.ops [⟨(some 63), none, .q (.bin .lss .num (.tmp 62) (.tmp 61))⟩])
        (.seq (.cond (.tmp 63)
          (.skip)
          (.exit 2))
        (.seq (.block 3 (.seq (.ops [⟨(some 64), none, .q (.ixa 1 (.tmp 60) (.tmp 62))⟩,
              ⟨(some 65), none, .q (.ld false 1 (.tmp 64))⟩,
              ⟨(some 16), none, .q (.mv (.tmp 65))⟩])
          (.seq (.ops [⟨(some 67), none, .q (.mv (.tmp 0))⟩,
              ⟨(some 68), none, .q (.nck (.tmp 67))⟩,
              ⟨(some 69), none, .q (.fad 1 1 (.tmp 68))⟩,
              ⟨(some 70), none, .q (.ld false 1 (.tmp 69))⟩,
              ⟨(some 71), none, .q (.mv (.tmp 16))⟩,
              ⟨(some 72), none, .e (.call 73 [(.tmp 70), (.tmp 71)])⟩,
              ⟨(some 66), none, .q (.mv (.tmp 72))⟩,
              ⟨(some 73), none, .q (.ext (.tmp 66) 0)⟩,
              ⟨(some 74), none, .q (.ext (.tmp 66) 1)⟩,
              ⟨(some 17), none, .e (.alloc 111 [(.string ByteArray.empty), (.string ByteArray.empty), (.int .i64 0), (.string ByteArray.empty)])⟩,
              ⟨none, none, .e (.st 4 (.tmp 17) (.tmp 73))⟩,
              ⟨(some 18), none, .q (.mv (.tmp 74))⟩])
          (.ops [⟨(some 75), none, .q (.fad 5 1 (.tmp 14))⟩,
              ⟨(some 76), none, .q (.ld false 1 (.tmp 75))⟩,
              ⟨(some 77), none, .q (.mv (.tmp 16))⟩,
              ⟨(some 78), none, .q (.fad 1 1 (.tmp 17))⟩,
              ⟨(some 79), none, .q (.ld false 1 (.tmp 78))⟩,
              ⟨(some 80), none, .q (.bld [(.string ByteArray.empty), (.string ByteArray.empty)] [(0, 1, (.tmp 77)), (1, 1, (.tmp 79))])⟩,
              ⟨(some 81), none, .e (.bsl 32 2 [(.tmp 80)])⟩,
              ⟨(some 82), none, .e (.app 32 2 32 false (.tmp 76) (.tmp 81))⟩,
              ⟨(some 83), none, .q (.fad 5 1 (.tmp 14))⟩,
              ⟨none, none, .e (.st 1 (.tmp 83) (.tmp 82))⟩]))))
        (.ops [⟨(some 84), none, .q (.bin .add .num (.tmp 62) (.const (.int .i64 1)))⟩,
            ⟨(some 62), none, .q (.mv (.tmp 84))⟩])))))))
    (.ops [⟨(some 85), none, .q (.mv (.tmp 12))⟩,
        ⟨(some 86), none, .q (.ld true 15 (.tmp 14))⟩,
        ⟨(some 87), none, .e (.bsl 41 15 [(.tmp 86)])⟩,
        ⟨(some 88), none, .e (.app 41 15 232 false (.tmp 85) (.tmp 87))⟩,
        ⟨(some 12), none, .q (.mv (.tmp 88))⟩])))
    (.skip))))
  (.seq (.seq (.ops [⟨(some 89), none, .q (.mv (.tmp 0))⟩,
      ⟨(some 90), none, .q (.nck (.tmp 89))⟩,
      ⟨(some 91), none, .q (.fad 1 1 (.tmp 90))⟩,
      ⟨(some 92), none, .q (.ld false 1 (.tmp 91))⟩,
      ⟨(some 93), none, .e (.call 51 [(.tmp 92)])⟩,
      ⟨(some 19), none, .q (.mv (.tmp 93))⟩])
  (.seq (.ops [⟨(some 94), none, .q (.fad 3 1 (.tmp 3))⟩,
      ⟨(some 95), none, .q (.ld false 1 (.tmp 94))⟩,
      ⟨(some 96), none, .q (.mv (.tmp 19))⟩,
      ⟨(some 97), none, .q (.len false (.tmp 96))⟩,
      ⟨(some 98), none, .q (.bin .lss .num (.tmp 95) (.tmp 97))⟩])
  (.cond (.tmp 98)
    (.ops [⟨(some 99), none, .q (.mv (.tmp 12))⟩,
        ⟨(some 100), none, .q (.mv (.tmp 0))⟩,
        ⟨(some 101), none, .q (.nck (.tmp 100))⟩,
        ⟨(some 102), none, .q (.fad 0 1 (.tmp 101))⟩,
        ⟨(some 103), none, .q (.ld false 1 (.tmp 102))⟩,
        ⟨(some 104), none, .q (.fad 1 1 (.tmp 3))⟩,
        ⟨(some 105), none, .q (.ld false 1 (.tmp 104))⟩,
        ⟨(some 106), none, .q (.mv (.tmp 19))⟩,
        ⟨(some 107), none, .q (.fad 3 1 (.tmp 3))⟩,
        ⟨(some 108), none, .q (.ld false 1 (.tmp 107))⟩,
        ⟨(some 109), none, .q (.ixa 9 (.tmp 106) (.tmp 108))⟩,
        ⟨(some 110), none, .q (.ld true 9 (.tmp 109))⟩,
        ⟨(some 111), none, .q (.bld [(.int .i64 0), (.int .i64 0), (.int .i64 0), (.int .i64 0), (.slice none 0 0), (.slice none 0 0), (.int .i64 0), (.slice none 0 0), (.slice none 0 0), (.slice none 0 0), (.slice none 0 0), (.slice none 0 0), (.int .i64 0), (.int .i64 0), (.int .i64 0)] [(0, 1, (.const (.int .i64 3))), (1, 1, (.tmp 103)), (2, 1, (.tmp 105)), (6, 9, (.tmp 110))])⟩,
        ⟨(some 112), none, .e (.bsl 41 15 [(.tmp 111)])⟩,
        ⟨(some 113), none, .e (.app 41 15 232 false (.tmp 99) (.tmp 112))⟩,
        ⟨(some 12), none, .q (.mv (.tmp 113))⟩])
    (.skip))))
  (.seq (.ops [⟨(some 114), none, .q (.mv (.tmp 12))⟩,
      ⟨(some 4), none, .q (.mv (.tmp 114))⟩,
      ⟨(some 5), none, .q (.mv (.const (.int .i64 0)))⟩])
  (.ret)))))))), []⟩
theorem k_nDig : compF Tryz.prog 41 = some c_nDig := by kernel_rfl
set_option maxHeartbeats 16000000 in
theorem nDig_ok {W : World} {H : AHeap} {g : Nat} {me : Int} {s l0 d ps st does used : Nat} {pl : List (Str × Nat × AVal)} (h : Nod H g me s l0 d ps st does used pl) (ids : List Str) (hids : ids.length ≤ 1000) :
    ACalls Tryz.prog W 41 [ptr g, .agg (digC (.sl false 1 (strRows ids)))] H fun v H' => ∃ Y, v = .tup [Y, .v (.int .i64 0)] ∧ Answer H' me pl (lacksS ids (sortS (pl.map (·.1)))) Y := by
  have hg := h.here
  unfold nodeCells at hg
  have hfew := h.sto.few
  have hkl : (sortS (pl.map (·.1))).length ≤ 64 := by rw [(sortS_perm _).length_eq]; simpa using hfew
  have hla := lacks_ok (W := W) false false ids (sortS (pl.map (·.1))) (by omega) (by omega)
  have hll := lacks_len ids (sortS (pl.map (·.1)))
  unfold digC
  refine fn_run follows k_nDig rfl ?_
  simp only [c_nDig, aretC_nil, List.zipIdx_cons, List.zipIdx_nil, List.map_cons, List.map_nil, Nat.zero_add]
  (try simp +decide (implicitDefEqProofs := false) only [go_sem, ↓stk_g, ↓stk_c, ↓reduceIte, lay, oneOr, List.take_succ_cons, List.take_zero, List.drop_succ_cons, List.drop_zero, List.nil_append, List.cons_append, Option.getD_some, Nat.reduceAdd, Nat.reduceLeDiff, List.append_nil, and_self, List.all_cons, List.all_nil])
  rw [stk_box]
  refine ⟨by rfl, fun b hb => ?_⟩
  have hb : H b = none := hb
  have hall : All H (H.put b (.cells tMsg (digC (.sl false 1 (strRows ids))))) := All.new hb
  have hsub : Sub H (H.put b (.cells tMsg (digC (.sl false 1 (strRows ids))))) := hall
  have hnod := h.all hall
  have hids2 := nIDs_ok (W := W) hnod
  show stk _ _ _ _ _ (AState.put ⟨_, H.put b (.cells tMsg (digC (.sl false 1 (strRows ids))))⟩ _ _)
  generalize hlk : lacksS ids (sortS (pl.map (·.1))) = lacks at hla hll ⊢
  generalize hks : sortS (pl.map (·.1)) = keys at hla hll hids2 hkl
  have hbs2 : (H.put b (.cells tMsg (digC (.sl false 1 (strRows ids))))) b = some (.cells tMsg (digC (.sl false 1 (strRows ids)))) := put_self _ _ _
  generalize H.put b (.cells tMsg (digC (.sl false 1 (strRows ids)))) = H1 at hall hsub hnod hids2 hbs2 ⊢
  have hbs := hbs2
  unfold digC at hbs
  have hfz : FZ H1 H (ptr b) (.pl (digC (.sl false 1 (strRows ids)))) := .cells hbs2 hb rfl (fun j _ _ => .refl _)
  (try simp +decide (implicitDefEqProofs := false) only [go_sem, ↓stk_g, ↓stk_c, ↓reduceIte, lay, oneOr, List.take_succ_cons, List.take_zero, List.drop_succ_cons, List.drop_zero, List.nil_append, List.cons_append, Option.getD_some, Nat.reduceAdd, Nat.reduceLeDiff, List.append_nil, and_self, List.all_cons, List.all_nil])
  refine stk_cut (fun s3 => tget s3.tm 6 = .sl false 1 (strRows lacks) ∧ tget s3.tm 3 = .pl (digC (.sl false 1 (strRows ids))) ∧ tget s3.tm 0 = ptr g ∧ s3.H = H) ?_ ?_
  · have hstep : ∀ x H2, (RowO H2 9 1 x (strRows keys) ∧ All H1 H2 ∧ ∀ b, blkOf x = some b → H1 b = none) → FZ H2 H x (.sl false 1 (strRows keys)) ∧ Sub H H2 ∧ FZ H2 H (ptr b) (.pl (digC (.sl false 1 (strRows ids)))) := fun x H2 ⟨h1, h2, h3⟩ =>
      ⟨h1.row.fz (strGood _) (fun c hc => hall.fresh (h3 c hc)), hall.trans h2, .cells (h2 _ _ hbs2) hb rfl (fun j _ _ => .refl _)⟩
    refine stk_both ?_ ?_
    · (try simp +decide (implicitDefEqProofs := false) only [go_sem, ↓stk_g, ↓stk_c, ↓reduceIte, hbs, lay, oneOr, List.take_succ_cons, List.take_zero, List.drop_succ_cons, List.drop_zero, List.nil_append, List.cons_append, Option.getD_some, Nat.reduceAdd, Nat.reduceLeDiff, List.append_nil, and_self, List.all_cons, List.all_nil])
      refine stk_call hids2 fun x H2 hx => ?_
      obtain ⟨f1, f2, f3⟩ := hstep x H2 hx
      (try simp +decide (implicitDefEqProofs := false) only [go_sem, ↓stk_g, ↓stk_c, ↓reduceIte, lay, oneOr, List.take_succ_cons, List.take_zero, List.drop_succ_cons, List.drop_zero, List.nil_append, List.cons_append, Option.getD_some, Nat.reduceAdd, Nat.reduceLeDiff, List.append_nil, and_self, List.all_cons, List.all_nil])
      refine stk_pureW ⟨[(21, .sl false 1 (strRows ids)), (23, .sl false 1 (strRows keys)), (3, .pl (digC (.sl false 1 (strRows ids)))), (0, ptr g)], H⟩ (Weak.list _ f2 ?_) hla fun v hv => ?_
      · (try simp +decide (implicitDefEqProofs := false) only [go_sem, ↓stk_g, ↓stk_c, ↓reduceIte])
        exact ⟨f1, f3⟩
      subst hv
      (try simp +decide (implicitDefEqProofs := false) only [go_sem, ↓stk_g, ↓stk_c, ↓reduceIte])
    · (try simp +decide (implicitDefEqProofs := false) only [go_sem, ↓stk_g, ↓stk_c, ↓reduceIte, hbs, lay, oneOr, List.take_succ_cons, List.take_zero, List.drop_succ_cons, List.drop_zero, List.nil_append, List.cons_append, Option.getD_some, Nat.reduceAdd, Nat.reduceLeDiff, List.append_nil, and_self, List.all_cons, List.all_nil])
      refine stk_call hids2 fun x H2 hx => ?_
      obtain ⟨f1, f2, f3⟩ := hstep x H2 hx
      have hbs3 := hx.2.1 _ _ hbs
      (try simp +decide (implicitDefEqProofs := false) only [go_sem, ↓stk_g, ↓stk_c, ↓reduceIte, hbs3, lay, oneOr, List.take_succ_cons, List.take_zero, List.drop_succ_cons, List.drop_zero, List.nil_append, List.cons_append, Option.getD_some, Nat.reduceAdd, Nat.reduceLeDiff, List.append_nil, and_self, List.all_cons, List.all_nil])
      refine stk_pureW ⟨[(21, .sl false 1 (strRows ids)), (23, .sl false 1 (strRows keys)), (3, .pl (digC (.sl false 1 (strRows ids)))), (0, ptr g)], H⟩ (Weak.list _ f2 ?_) hla fun v hv => ?_
      · (try simp +decide (implicitDefEqProofs := false) only [go_sem, ↓stk_g, ↓stk_c, ↓reduceIte])
        exact ⟨f1, f3⟩
      subst hv
      (try simp +decide (implicitDefEqProofs := false) only [go_sem, ↓stk_g, ↓stk_c, ↓reduceIte])
  rintro ⟨tm, H2⟩ ⟨t6, t3, t0, hH⟩
  dsimp only at t6 t3 t0 hH
  subst hH
  clear hbs hall hsub hnod hids2 hbs2 hfz hb
  have hll : lacks.length ≤ 64 := by omega
  (try simp +decide (implicitDefEqProofs := false) only [go_sem, ↓stk_g, ↓stk_c, ↓reduceIte, t6, lay, oneOr, List.take_succ_cons, List.take_zero, List.drop_succ_cons, List.drop_zero, List.nil_append, List.cons_append, Option.getD_some, Nat.reduceAdd, Nat.reduceLeDiff, List.append_nil, and_self, List.all_cons, List.all_nil])
  refine stk_up (α := AVal × AHeap) lacks.length (fun i q => ⟨[(27, .v (.int .i64 i)), (26, .v (.int .i64 lacks.length)), (25, .sl false 1 (strRows lacks)), (7, q.1), (6, .sl false 1 (strRows lacks)), (3, .pl (digC (.sl false 1 (strRows ids)))), (0, ptr g)], q.2⟩)
    (fun i q => RowO q.2 3 1 q.1 (intRows (sizesOf pl (lacks.take i))) ∧ All H2 q.2 ∧ ∀ b, blkOf q.1 = some b → H2 b = none) (nil, H2) (Weak.list _ (Sub.refl _) (by (try simp +decide (implicitDefEqProofs := false) only [go_sem, ↓stk_g, ↓stk_c, ↓reduceIte, t0, t3, t6]))) ⟨RowO.nil, fun _ _ h => h, fun b e => by cases e⟩ ?_
  rintro i ⟨x, H3⟩ hi ⟨hrow, hal, hfr⟩
  dsimp only at hrow hal hfr
  by_cases hlt : i < lacks.length
  · have g1 : (i : Int) < (lacks.length : Int) := by omega
    have hw := wrap_in (n := (i : Int) + 1) (by omega) (by omega)
    have hgt := strRows_get hlt
    have hnod3 := h.all hal
    have hg3 := hal _ _ hg
    obtain ⟨a, c, e, hq⟩ := rawOf_cells hnod3.sto (lacks.getD i ByteArray.empty)
    have hget := stGet_ok (W := W) hnod3.sto (lacks.getD i ByteArray.empty)
    rw [hq] at hget
    have hsz := rawOf_size hnod3.sto (lacks.getD i ByteArray.empty)
    have htk : lacks.take (i + 1) = lacks.take i ++ [lacks.getD i ByteArray.empty] := by rw [List.take_succ_eq_append_getElem hlt]; simp [hlt]
    generalize lacks.getD i ByteArray.empty = id at hgt hq hget hsz htk
    (try simp +decide (implicitDefEqProofs := false) only [go_sem, ↓stk_g, ↓stk_c, ↓reduceIte, g1, hlt, hgt, hg3, lay, oneOr, List.take_succ_cons, List.take_zero, List.drop_succ_cons, List.drop_zero, List.nil_append, List.cons_append, Option.getD_some, Nat.reduceAdd, Nat.reduceLeDiff, List.append_nil, and_self, List.all_cons, List.all_nil])
    refine stk_call hget fun v H4 hv => ?_
    obtain ⟨rfl, hk4⟩ := hv
    (try simp +decide (implicitDefEqProofs := false) only [go_sem, ↓stk_g, ↓stk_c, ↓reduceIte, lay, oneOr, List.take_succ_cons, List.take_zero, List.drop_succ_cons, List.drop_zero, List.nil_append, List.cons_append, Option.getD_some, Nat.reduceAdd, Nat.reduceLeDiff, List.append_nil, and_self, List.all_cons, List.all_nil])
    rw [stk_alloc]
    intro z hz
    have hz : H4 z = none := hz
    (try simp +decide (implicitDefEqProofs := false) only [go_sem, ↓stk_g, ↓stk_c, ↓reduceIte, hp_self, hp_hp, lay, oneOr, List.take_succ_cons, List.take_zero, List.drop_succ_cons, List.drop_zero, List.nil_append, List.cons_append, Option.getD_some, Nat.reduceAdd, Nat.reduceLeDiff, List.append_nil, and_self, List.all_cons, List.all_nil])
    have hk5 : All H3 (H4.put z (.cells 111 [.v (.string a), .v (.string (rawOf pl id)), .v (.int .i64 c), .v (.string e)])) := hk4.trans (All.new hz)
    have e9 : (intRows (sizesOf pl (lacks.take i))).length = i := by simp [sizesOf, intRows]; omega
    refine stk_appF (rows := intRows (sizesOf pl (lacks.take i))) (hrow.keep fun b o _ hb => hk5 _ _ hb) (by rfl) (by rw [e9]; simp only [List.length_cons, List.length_nil]; omega) fun x2 H6 hr2 hrest hfr2 => ?_
    (try simp +decide (implicitDefEqProofs := false) only [go_sem, ↓stk_g, ↓stk_c, ↓reduceIte, hw, lay, oneOr, List.take_succ_cons, List.take_zero, List.drop_succ_cons, List.drop_zero, List.nil_append, List.cons_append, Option.getD_some, Nat.reduceAdd, Nat.reduceLeDiff, List.append_nil, and_self, List.all_cons, List.all_nil])
    refine ⟨(x2, H6), Weak.list _ (Sub.refl _) (by (try simp +decide (implicitDefEqProofs := false) only [go_sem, ↓stk_g, ↓stk_c, ↓reduceIte])), ?_, fun b o hb => ?_, fun b hb => ?_⟩
    · rw [htk]; simpa [sizesOf, intRows, intRow] using hr2
    · exact hrest b o (hk5 b o (hal b o hb)) (fun e => by rw [hfr b e] at hb; cases hb)
    · rcases hfr2 b hb with h' | h'
      · exact hfr b h'
      · exact hal.fresh (hk5.fresh h')
  have g1 : ¬ (i : Int) < (lacks.length : Int) := by omega
  rw [List.take_of_length_le (by omega)] at hrow
  (try simp +decide (implicitDefEqProofs := false) only [go_sem, ↓stk_g, ↓stk_c, ↓reduceIte, g1, lay, oneOr, List.take_succ_cons, List.take_zero, List.drop_succ_cons, List.drop_zero, List.nil_append, List.cons_append, Option.getD_some, Nat.reduceAdd, Nat.reduceLeDiff, List.append_nil, and_self, List.all_cons, List.all_nil])
  have hss := short_ok (W := W) false false lacks (sizesOf pl lacks) 8000 (by omega) (by omega) (by omega) (by simp [sizesOf]; omega) (fun j hj => by
    have hj' : j < lacks.length := by simpa [sizesOf] using hj
    have := rawOf_size h.sto lacks[j]
    simp [sizesOf, hj']; omega)
  have hfz : FZ H3 H2 x (.sl false 1 (intRows (sizesOf pl lacks))) := hrow.row.fz (intGood _) (fun c hc => hfr c hc)
  refine stk_pureW ⟨[(47, .sl false 1 (strRows lacks)), (48, .sl false 1 (intRows (sizesOf pl lacks))), (12, nil), (3, .pl (digC (.sl false 1 (strRows ids)))), (0, ptr g)], H2⟩ (Weak.list _ hal ?_) hss fun v hv => ?_
  · (try simp +decide (implicitDefEqProofs := false) only [go_sem, ↓stk_g, ↓stk_c, ↓reduceIte])
    exact hfz
  obtain ⟨k, hsh, rfl⟩ := hv
  generalize hL : lacks.take k = L
  have hLl : L.length ≤ 64 := by rw [← hL, List.length_take]; omega
  by_cases hL0 : L.length = 0
  · have g2 : ¬ (0 : Int) < (L.length : Int) := by omega
    have d0 : decide ((0 : Int) < 0) = false := by decide
    (try simp +decide (implicitDefEqProofs := false) only [go_sem, ↓stk_g, ↓stk_c, ↓reduceIte, g2, hg, lay, oneOr, List.take_succ_cons, List.take_zero, List.drop_succ_cons, List.drop_zero, List.nil_append, List.cons_append, Option.getD_some, Nat.reduceAdd, Nat.reduceLeDiff, List.append_nil, and_self, List.all_cons, List.all_nil])
    refine stk_call (stChain_ok h.sto) fun v H4 hv => ?_
    obtain ⟨rfl, rfl⟩ := hv
    (try simp +decide (implicitDefEqProofs := false) only [go_sem, ↓stk_g, ↓stk_c, ↓reduceIte, d0, digC, lay, oneOr, List.take_succ_cons, List.take_zero, List.drop_succ_cons, List.drop_zero, List.nil_append, List.cons_append, Option.getD_some, Nat.reduceAdd, Nat.reduceLeDiff, List.append_nil, and_self, List.all_cons, List.all_nil])
    exact ⟨.inr rfl, _, _, Sub.refl _, .refl _, nil, rfl, k, hsh, .inl ⟨by rw [hL]; exact hL0, rfl⟩⟩
  · have g2 : (0 : Int) < (L.length : Int) := by omega
    have d0 : decide ((0 : Int) < 0) = false := by decide
    (try simp +decide (implicitDefEqProofs := false) only [go_sem, ↓stk_g, ↓stk_c, ↓reduceIte, g2, hg, digC, lay, oneOr, List.take_succ_cons, List.take_zero, List.drop_succ_cons, List.drop_zero, List.nil_append, List.cons_append, Option.getD_some, Nat.reduceAdd, Nat.reduceLeDiff, List.append_nil, and_self, List.all_cons, List.all_nil])
    rw [stk_alloc]
    intro y hy
    have hy : H2 y = none := hy
    (try simp +decide (implicitDefEqProofs := false) only [go_sem, ↓stk_g, ↓stk_c, ↓reduceIte, hp_self, hp_hp, lay, oneOr, List.take_succ_cons, List.take_zero, List.drop_succ_cons, List.drop_zero, List.nil_append, List.cons_append, Option.getD_some, Nat.reduceAdd, Nat.reduceLeDiff, List.append_nil, and_self, List.all_cons, List.all_nil])
    have hrl : ∀ j, (postRows (postsOf pl (L.take j))).length ≤ 64 := fun j => by simp [postRows, postsOf]; omega
    refine stk_up (α := AVal × AHeap) L.length (fun j q => ⟨[(62, .v (.int .i64 j)), (61, .v (.int .i64 L.length)), (60, .sl false 1 (strRows L)), (14, ptr y), (12, nil), (3, .pl (digC (.sl false 1 (strRows ids)))), (0, ptr g)], q.2⟩)
      (fun j q => q.2 y = some (.cells tMsg (postMsg me q.1)) ∧ RowO q.2 tPost 2 q.1 (postRows (postsOf pl (L.take j))) ∧ All H2 q.2 ∧ ∀ b, blkOf q.1 = some b → H2 b = none) (nil, H2.put y (.cells tMsg (postMsg me nil))) (Weak.list _ (Sub.refl _) (by (try simp +decide (implicitDefEqProofs := false) only [go_sem, ↓stk_g, ↓stk_c, ↓reduceIte, digC, FZ_rfl]))) ⟨put_self _ _ _, RowO.nil, All.new hy, fun b e => by cases e⟩ ?_
    rintro j ⟨px, H3⟩ hj ⟨hmy, hrow, hal, hfr⟩
    dsimp only at hmy hrow hal hfr
    unfold postMsg at hmy
    by_cases hlt : j < L.length
    · have g1 : (j : Int) < (L.length : Int) := by omega
      have hw := wrap_in (n := (j : Int) + 1) (by omega) (by omega)
      have hgt := strRows_get hlt
      have hnod3 := h.all hal
      have hg3 := hal _ _ hg
      obtain ⟨a, c, e, hq⟩ := rawOf_cells hnod3.sto (L.getD j ByteArray.empty)
      have hget := stGet_ok (W := W) hnod3.sto (L.getD j ByteArray.empty)
      rw [hq] at hget
      have htk : L.take (j + 1) = L.take j ++ [L.getD j ByteArray.empty] := by rw [List.take_succ_eq_append_getElem hlt]; simp [hlt]
      generalize L.getD j ByteArray.empty = id at hgt hq hget htk
      (try simp +decide (implicitDefEqProofs := false) only [go_sem, ↓stk_g, ↓stk_c, ↓reduceIte, g1, hlt, hgt, hg3, lay, oneOr, List.take_succ_cons, List.take_zero, List.drop_succ_cons, List.drop_zero, List.nil_append, List.cons_append, Option.getD_some, Nat.reduceAdd, Nat.reduceLeDiff, List.append_nil, and_self, List.all_cons, List.all_nil])
      refine stk_call hget fun v H4 hv => ?_
      obtain ⟨rfl, hk4⟩ := hv
      (try simp +decide (implicitDefEqProofs := false) only [go_sem, ↓stk_g, ↓stk_c, ↓reduceIte, lay, oneOr, List.take_succ_cons, List.take_zero, List.drop_succ_cons, List.drop_zero, List.nil_append, List.cons_append, Option.getD_some, Nat.reduceAdd, Nat.reduceLeDiff, List.append_nil, and_self, List.all_cons, List.all_nil])
      rw [stk_alloc]
      intro z hz
      have hz : H4 z = none := hz
      have hk5 : All H3 (H4.put z (.cells 111 [.v (.string a), .v (.string (rawOf pl id)), .v (.int .i64 c), .v (.string e)])) := hk4.trans (All.new hz)
      have hmy5 := hk5 _ _ hmy
      (try simp +decide (implicitDefEqProofs := false) only [go_sem, ↓stk_g, ↓stk_c, ↓reduceIte, hp_self, hp_hp, hmy5, lay, oneOr, List.take_succ_cons, List.take_zero, List.drop_succ_cons, List.drop_zero, List.nil_append, List.cons_append, Option.getD_some, Nat.reduceAdd, Nat.reduceLeDiff, List.append_nil, and_self, List.all_cons, List.all_nil])
      have hl5 := hrl j
      refine stk_appF (rows := postRows (postsOf pl (L.take j))) (hrow.keep fun b o _ hb => hk5 _ _ hb) (by rfl) (by simp only [List.length_cons, List.length_nil]; omega) fun x2 H6 hr2 hrest hfr2 => ?_
      have hoff : blkOf px ≠ some y := hrow.off hmy (fun _ _ _ e => by cases e)
      have hmy6 : H6 y = _ := hrest _ _ hmy5 hoff
      have hx2 : ∃ gx m, x2 = .bs gx 2 m := by
        rcases hr2.shape with ⟨_, e⟩ | ⟨gx, e, _⟩
        · simp at e
        · exact ⟨gx, _, e⟩
      have hoff2 : blkOf x2 ≠ some y := hr2.off hmy6 (fun _ _ _ e => by cases e)
      obtain ⟨gx, m, rfl⟩ := hx2
      (try simp +decide (implicitDefEqProofs := false) only [go_sem, ↓stk_g, ↓stk_c, ↓reduceIte, hmy6, hw, lay, oneOr, List.take_succ_cons, List.take_zero, List.drop_succ_cons, List.drop_zero, List.nil_append, List.cons_append, Option.getD_some, Nat.reduceAdd, Nat.reduceLeDiff, List.append_nil, and_self, List.all_cons, List.all_nil])
      refine ⟨(.bs gx 2 m, H6.put y (.cells tMsg (postMsg me (.bs gx 2 m)))), Weak.list _ (Sub.refl _) (by (try simp +decide (implicitDefEqProofs := false) only [go_sem, ↓stk_g, ↓stk_c, ↓reduceIte, digC, FZ_rfl])), put_self _ _ _, ?_, fun b o hb => ?_, fun b hb => ?_⟩
      · rw [htk]
        have e9 : postRows (postsOf pl (L.take j ++ [id])) = postRows (postsOf pl (L.take j)) ++ [[.v (.string id), .v (.string (rawOf pl id))]] := by simp [postRows, postsOf, postRow]
        rw [e9]
        exact RowO.put hr2 hoff2
      · have hby : b ≠ y := fun e => by rw [e, hy] at hb; cases hb
        exact (put_ne _ _ hby).trans (hrest b o (hk5 b o (hal b o hb)) (fun e => by rw [hfr b e] at hb; cases hb))
      · rcases hfr2 b hb with h' | h'
        · exact hfr b h'
        · exact hal.fresh (hk5.fresh h')
    have g1 : ¬ (j : Int) < (L.length : Int) := by omega
    rw [List.take_of_length_le (by omega)] at hrow
    have hx2 : ∃ gx m, px = .bs gx 2 m := by
      rcases hrow.shape with ⟨_, e⟩ | ⟨gx, e, _⟩
      · have := congrArg List.length e; simp [postRows, postsOf] at this; exact absurd (by rw [this]; rfl) hL0
      · exact ⟨gx, _, e⟩
    obtain ⟨gx, m, rfl⟩ := hx2
    (try simp +decide (implicitDefEqProofs := false) only [go_sem, ↓stk_g, ↓stk_c, ↓reduceIte, g1, hmy, lay, oneOr, List.take_succ_cons, List.take_zero, List.drop_succ_cons, List.drop_zero, List.nil_append, List.cons_append, Option.getD_some, Nat.reduceAdd, Nat.reduceLeDiff, List.append_nil, and_self, List.all_cons, List.all_nil])
    refine stk_appF (rows := []) .nil (by rfl) (by simp) fun Y H7 hY hrest hfr7 => ?_
    have hal7 : All H2 H7 := fun b o hb => hrest b o (hal b o hb) (fun e => by cases e)
    have hg7 := hal7 _ _ hg
    have hY2 : ∃ gy m, Y = .bs gy 15 m := by
      rcases hY.shape with ⟨_, e⟩ | ⟨gx, e, _⟩
      · simp at e
      · exact ⟨gx, _, e⟩
    (try simp +decide (implicitDefEqProofs := false) only [go_sem, ↓stk_g, ↓stk_c, ↓reduceIte, hg7, lay, oneOr, List.take_succ_cons, List.take_zero, List.drop_succ_cons, List.drop_zero, List.nil_append, List.cons_append, Option.getD_some, Nat.reduceAdd, Nat.reduceLeDiff, List.append_nil, and_self, List.all_cons, List.all_nil])
    refine stk_call (stChain_ok (h.all hal7).sto) fun v H8 hv => ?_
    obtain ⟨rfl, rfl⟩ := hv
    (try simp +decide (implicitDefEqProofs := false) only [go_sem, ↓stk_g, ↓stk_c, ↓reduceIte, d0, digC, lay, oneOr, List.take_succ_cons, List.take_zero, List.drop_succ_cons, List.drop_zero, List.nil_append, List.cons_append, Option.getD_some, Nat.reduceAdd, Nat.reduceLeDiff, List.append_nil, and_self, List.all_cons, List.all_nil])
    refine ⟨.inr rfl, _, _, Sub.refl _, .refl _, Y, rfl, k, hsh, .inr ⟨by rw [hL]; omega, .bs gx 2 m, hY, ?_⟩⟩
    rw [hL]
    exact hrow.keep fun b o _ hb => hrest b o hb (fun e => by cases e)
end Go.Proofs.YtcbagpippmbmfaaGreatDoor.M
