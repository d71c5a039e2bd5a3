/-
  The law NodeSilent, walked.
-/
import Derived.Test.YtcbagpippmbmfaaGreatDoorNf
import Derived.Test.YtcbagpippmbmfaaGreatDoorMV
namespace Go.Proofs.YtcbagpippmbmfaaGreatDoor.M
open Go.RowKit
attribute [local go_sem] stk_nil stk_skip stk_ops stk_seq stk_block stk_scope stk_exit stk_ret stk_code_exit stk_code_ret stk_ops_exit stk_ops_ret stk_endb stk_endb_exit stk_endb_ret stk_endl stk_endl_exit stk_endl_ret stk_ops_nil stk_q stk_niq niqA flip srcOf stk_bsl side val bside bval uside uval cside cval bndS bndV intA isInt lside lval fside fval faside faval iside ival sxside sxval sizeA slside slval llside llval lenside lenval lenA tupA mmside mmval nkside boolA isBool ev_t ev_c tget put_s put_n lkside lkval menval stk_mk Option.isSome_some isMapA mapA keyA FZ_rfl FZ_any retOf true_and and_true if_true if_false decide_true decide_false Bool.not_true Bool.not_false Nat.zero_add List.map_cons List.map_nil Int.toNat_natCast strRows_len intRows_len List.getD_cons_zero List.getD_cons_succ List.length_cons List.length_nil List.forall_mem_cons List.not_mem_nil false_implies implies_true Int.ofNat_zero Int.natCast_add Int.natCast_one Int.ofNat_one Int.natCast_zero isB isU Bool.false_eq_true beq_self_eq_true Bool.false_beq Bool.true_beq Int.natCast_nonneg undef strRows_take strRows_drop Int.toNat_zero List.drop_zero Bool.and_true oneOr List.all_cons List.all_nil AVal.one Value.oneCell' Bool.true_and List.take_length stk_st' stside stH hp_self hp_hp isnside isnval
set_option linter.unusedVariables false
set_option linter.unusedSimpArgs false
theorem lacks_none {a b : List Str} (h : ∀ z, z ∈ b → z ∈ a) : lacksS a b = [] := by
  cases e : lacksS a b with
  | nil => rfl
  | cons z l =>
    have := (lacksS_mem a b z).1 (by rw [e]; simp)
    exact absurd (h z this.1) this.2
theorem stk_callW {P : Program} {W : World} {k : List Item} {Q : Exit → AState → Prop} {s : AState} {d : Option Nat} {f : FuncId} {xs : List Operand} {r : List AOper} {R : AVal → AHeap → Prop} (s1 : AState) (hw : Weak s s1) (h : ACalls P W f (xs.map (ev s1.tm)) s1.H R) (hk : ∀ v H', R v H' → stk P W (.ops r :: k) Q .normal ((⟨s1.tm, H'⟩ : AState).put d v)) : stk P W (.ops (⟨d, none, .e (.call f xs)⟩ :: r) :: k) Q .normal s :=
  ⟨s1, hw, ACalls.mono h hk⟩
theorem empty_lt {x : Str} (h : x ≠ ByteArray.empty) : Lt ByteArray.empty x := by
  rcases Lt.total ByteArray.empty x with h1 | h1 | h1
  · exact h1
  · exact absurd h1.symm h
  · exact absurd h1 (by unfold Lt; exact List.not_lt_nil _)
theorem gtS_of {a x : Str} (h : Lt a x) : gtS x a = true := by
  unfold gtS
  have h1 : strLt x a = false := by
    cases e : strLt x a with
    | false => rfl
    | true => exact absurd (h.trans ((strLt_eq x a).1 e)) (Lt.irrefl a)
  have h2 : x ≠ a := fun e => by rw [e] at h; exact Lt.irrefl a h
  rw [h1, decide_eq_false h2]; rfl
theorem riseIds_of : ∀ (l : List Str) (a : Str), l.Pairwise Lt → (∀ x ∈ l, x.size ≤ 16 ∧ Lt a x) → riseIds a l = true
  | [], a, _, _ => rfl
  | x :: l, a, hp, h => by
    obtain ⟨h1, h2⟩ := List.pairwise_cons.1 hp
    have hx := h x (by simp)
    rw [riseIds, stepS, gtS_of hx.2, decide_eq_true (by omega), riseIds_of l x h2 (fun y hy => ⟨(h y (by simp [hy])).1, h1 y hy⟩)]
    rfl
theorem riseIds_end : ∀ (l : List Str) (a x : Str), riseIds a (l ++ [x]) = (riseIds a l && stepS (l.getLastD a) x)
  | [], a, x => by simp [riseIds]
  | y :: l, a, x => by
    rw [List.cons_append, riseIds, riseIds, riseIds_end l y x, List.getLastD_cons, Bool.and_assoc]
theorem digFZ {H H' : AHeap} {x y : AVal} (h : FZ H H' x y) (ho : y.one = true) : FZ H H' (.agg (digC x)) (.agg (digC y)) := by
  refine .agg rfl (fun j hj => ?_) (fun j hj hj' => ?_)
  · rcases j with _ | _ | _ | _ | _ | _ | _ | _ | _ | _ | _ | _ | _ | _ | _ | j
    all_goals first | rfl | exact ho | (simp [digC] at hj; omega)
  · rcases j with _ | _ | _ | _ | _ | _ | _ | _ | _ | _ | _ | _ | _ | _ | _ | j
    all_goals first | exact .refl _ | exact h | (simp [digC] at hj; omega)
theorem Nod.weak {H : AHeap} {g : Nat} {me : Int} {s l d ps st does used : Nat} {pl : List (Str × Nat × AVal)} (h : Nod H g me s l d ps st does used pl) : Nod H g me s l d ps st does 60000 pl := by
  obtain ⟨X, rows, n, hd, _⟩ := h.sto.dev
  exact ⟨h.here, h.fns, ⟨h.sto.here, h.sto.log, ⟨X, rows, n, hd, hd.few⟩, h.sto.posts, h.sto.stale, h.sto.few, h.sto.kv, h.sto.ne⟩, h.ne1, h.ne2⟩
theorem postRows_get {l : List (Str × Str)} {i : Nat} (h : i < l.length) : (postRows l).getD i [] = [.v (.string l[i].1), .v (.string l[i].2)] := by simp [postRows, postRow, h]
def c_silent : AFn := ⟨2, 123, [4],
  .seq (.ops [⟨(some 4), none, .q (.mv (.const (.bool false)))⟩])
  (.seq (.ops [⟨(some 14), none, .e (.call 9 [])⟩,
      ⟨(some 5), none, .q (.mv (.tmp 14))⟩])
  (.seq (.ops [⟨(some 16), none, .e (.call 11 [])⟩,
      ⟨(some 17), none, .e (.call 10 [(.const (.int .i64 1)), (.tmp 16)])⟩,
      ⟨(some 15), none, .q (.mv (.tmp 17))⟩,
      ⟨(some 18), none, .q (.ext (.tmp 15) 0)⟩,
      ⟨(some 19), none, .q (.ext (.tmp 15) 1)⟩,
      ⟨(some 6), none, .q (.mv (.tmp 18))⟩,
      ⟨(some 7), none, .q (.mv (.tmp 19))⟩])
  (.seq (.seq (.ops [⟨(some 20), none, .q (.mv (.tmp 6))⟩,
      ⟨(some 21), none, .q (.bin .eql .ptr (.tmp 20) (.const (.pointer none)))⟩,
      ⟨(some 22), none, .q (.mv (.tmp 21))⟩,
      ⟨(some 23), (some (22, false)), .q (.mv (.tmp 0))⟩,
      ⟨(some 24), (some (22, false)), .q (.len false (.tmp 23))⟩,
      ⟨(some 25), (some (22, false)), .q (.bin .gtr .num (.tmp 24) (.const (.int .i64 10)))⟩,
      ⟨(some 26), none, .q (.pick (.tmp 22) (.const (.bool true)) (.tmp 25))⟩,
      ⟨(some 27), none, .q (.mv (.tmp 26))⟩,
      ⟨(some 28), (some (27, false)), .q (.mv (.tmp 1))⟩,
      ⟨(some 29), (some (27, false)), .q (.len false (.tmp 28))⟩,
      ⟨(some 30), (some (27, false)), .q (.bin .gtr .num (.tmp 29) (.const (.int .i64 10)))⟩,
      ⟨(some 31), none, .q (.pick (.tmp 27) (.const (.bool true)) (.tmp 30))⟩])
  (.cond (.tmp 31)
    (.seq (.ops [⟨(some 32), none, .q (.mv (.tmp 5))⟩,
        ⟨(some 33), none, .q (.mv (.tmp 32))⟩,
        ⟨(some 34), (some (33, true)), .q (.mv (.tmp 6))⟩,
        ⟨(some 35), (some (33, true)), .q (.bin .neq .ptr (.tmp 34) (.const (.pointer none)))⟩,
        ⟨(some 36), none, .q (.pick (.tmp 33) (.tmp 35) (.const (.bool false)))⟩,
        ⟨(some 4), none, .q (.mv (.tmp 36))⟩])
    (.ret))
    (.skip)))
  (.seq (.seq (.ops [⟨(some 8), none, .q (.mv (.const (.int .i64 0)))⟩])
  (.block 0 (.loop (.seq (.seq (.ops [⟨(some 37), none, .q (.mv (.tmp 8))⟩,
          ⟨(some 38), none, .q (.mv (.tmp 0))⟩,
          ⟨(some 39), none, .q (.len false (.tmp 38))⟩,
          ⟨(some 40), none, .q (.bin .lss .num (.tmp 37) (.tmp 39))⟩])
      (.cond (.tmp 40)
        (.skip)
        (.exit 0)))
      (.seq (.block 1 (.seq (.seq (.ops [⟨(some 43), none, .q (.mv (.tmp 0))⟩,
            ⟨(some 44), none, .q (.mv (.tmp 8))⟩,
            ⟨(some 45), none, .q (.ixa 2 (.tmp 43) (.tmp 44))⟩,
            ⟨(some 46), none, .q (.fad 1 1 (.tmp 45))⟩,
            ⟨(some 47), none, .q (.ld false 1 (.tmp 46))⟩,
            ⟨(some 48), none, .q (.len true (.tmp 47))⟩,
            ⟨(some 49), none, .q (.bin .gtr .num (.tmp 48) (.const (.int .i64 2000)))⟩])
        (.cond (.tmp 49)
          (.seq (.ops [⟨(some 50), none, .q (.mv (.tmp 5))⟩,
              ⟨(some 4), none, .q (.mv (.tmp 50))⟩])
          (.ret))
          (.skip)))
        (.ops [⟨(some 51), none, .q (.mv (.tmp 6))⟩,
            ⟨(some 52), none, .q (.mv (.tmp 0))⟩,
            ⟨(some 53), none, .q (.mv (.tmp 8))⟩,
            ⟨(some 54), none, .q (.ixa 2 (.tmp 52) (.tmp 53))⟩,
            ⟨(some 55), none, .q (.fad 0 1 (.tmp 54))⟩,
            ⟨(some 56), none, .q (.ld false 1 (.tmp 55))⟩,
            ⟨(some 57), none, .q (.mv (.tmp 0))⟩,
            ⟨(some 58), none, .q (.mv (.tmp 8))⟩,
            ⟨(some 59), none, .q (.ixa 2 (.tmp 57) (.tmp 58))⟩,
            ⟨(some 60), none, .q (.fad 1 1 (.tmp 59))⟩,
            ⟨(some 61), none, .q (.ld false 1 (.tmp 60))⟩,
            ⟨(some 62), none, .e (.call 12 [(.tmp 51), (.tmp 56), (.tmp 61)])⟩])))
      (.ops [⟨(some 41), none, .q (.mv (.tmp 8))⟩,
          ⟨(some 42), none, .q (.bin .add .num (.tmp 41) (.const (.int .i64 1)))⟩,
          ⟨(some 8), none, .q (.mv (.tmp 42))⟩]))))))
  (.seq (.ops [⟨(some 63), none, .q (.mv (.tmp 6))⟩,
      ⟨(some 64), none, .e (.call 13 [(.tmp 63)])⟩,
      ⟨(some 9), none, .q (.mv (.tmp 64))⟩])
  (.seq (.ops [⟨(some 10), none, .q (.mv (.const (.string ByteArray.empty)))⟩])
  (.seq (.seq (.ops [⟨(some 65), none, .q (.mv (.tmp 9))⟩,
      ⟨(some 66), none, .q (.len false (.tmp 65))⟩,
      ⟨(some 67), none, .q (.bin .gtr .num (.tmp 66) (.const (.int .i64 0)))⟩])
  (.cond (.tmp 67)
    (.ops [⟨(some 68), none, .q (.mv (.tmp 9))⟩,
        ⟨(some 69), none, .q (.mv (.tmp 9))⟩,
        ⟨(some 70), none, .q (.len false (.tmp 69))⟩,
        ⟨(some 71), none, .q (.bin .sub .num (.tmp 70) (.const (.int .i64 1)))⟩,
        ⟨(some 72), none, .q (.ixa 1 (.tmp 68) (.tmp 71))⟩,
        ⟨(some 73), none, .q (.ld false 1 (.tmp 72))⟩,
        ⟨(some 10), none, .q (.mv (.tmp 73))⟩])
    (.skip)))
  (.seq (.seq (.ops [⟨(some 11), none, .q (.mv (.const (.int .i64 0)))⟩])
  (.block 2 (.loop (.seq (.seq (.ops [⟨(some 74), none, .q (.mv (.tmp 11))⟩,
          ⟨(some 75), none, .q (.mv (.tmp 1))⟩,
          ⟨(some 76), none, .q (.len false (.tmp 75))⟩,
          ⟨(some 77), none, .q (.bin .lss .num (.tmp 74) (.tmp 76))⟩])
      (.cond (.tmp 77)
        (.skip)
        (.exit 2)))
      (.seq (.block 3 (.seq (.seq (.ops [⟨(some 80), none, .q (.mv (.tmp 1))⟩,
            ⟨(some 81), none, .q (.mv (.tmp 11))⟩,
            ⟨(some 82), none, .q (.ixa 1 (.tmp 80) (.tmp 81))⟩,
            ⟨(some 83), none, .q (.ld false 1 (.tmp 82))⟩,
            ⟨(some 84), none, .q (.mv (.tmp 10))⟩,
            ⟨(some 85), none, .q (.bin .leq .num (.tmp 83) (.tmp 84))⟩,
            ⟨(some 86), none, .q (.mv (.tmp 85))⟩,
            ⟨(some 87), (some (86, false)), .q (.mv (.tmp 1))⟩,
            ⟨(some 88), (some (86, false)), .q (.mv (.tmp 11))⟩,
            ⟨(some 89), (some (86, false)), .q (.ixa 1 (.tmp 87) (.tmp 88))⟩,
            ⟨(some 90), (some (86, false)), .q (.ld false 1 (.tmp 89))⟩,
            ⟨(some 91), (some (86, false)), .q (.len true (.tmp 90))⟩,
            ⟨(some 92), (some (86, false)), .q (.bin .gtr .num (.tmp 91) (.const (.int .i64 16)))⟩,
            ⟨(some 93), none, .q (.pick (.tmp 86) (.const (.bool true)) (.tmp 92))⟩])
        (.cond (.tmp 93)
          (.seq (.ops [⟨(some 94), none, .q (.mv (.tmp 5))⟩,
              ⟨(some 4), none, .q (.mv (.tmp 94))⟩])
          (.ret))
          (.skip)))
        (.seq (.ops [⟨(some 95), none, .q (.mv (.tmp 9))⟩,
            ⟨(some 96), none, .q (.mv (.tmp 1))⟩,
            ⟨(some 97), none, .q (.mv (.tmp 11))⟩,
            ⟨(some 98), none, .q (.ixa 1 (.tmp 96) (.tmp 97))⟩,
            ⟨(some 99), none, .q (.ld false 1 (.tmp 98))⟩,
            ⟨(some 100), none, .e (.bsl 9 1 [(.tmp 99)])⟩,
            ⟨(some 101), none, .e (.app 9 1 16 false (.tmp 95) (.tmp 100))⟩,
            ⟨(some 9), none, .q (.mv (.tmp 101))⟩])
        (.ops [⟨(some 102), none, .q (.mv (.tmp 1))⟩,
            ⟨(some 103), none, .q (.mv (.tmp 11))⟩,
            ⟨(some 104), none, .q (.ixa 1 (.tmp 102) (.tmp 103))⟩,
            ⟨(some 105), none, .q (.ld false 1 (.tmp 104))⟩,
            ⟨(some 10), none, .q (.mv (.tmp 105))⟩]))))
      (.ops [⟨(some 78), none, .q (.mv (.tmp 11))⟩,
          ⟨(some 79), none, .q (.bin .add .num (.tmp 78) (.const (.int .i64 1)))⟩,
          ⟨(some 11), none, .q (.mv (.tmp 79))⟩]))))))
  (.seq (.ops [⟨(some 107), none, .q (.mv (.tmp 6))⟩,
      ⟨(some 108), none, .q (.mv (.tmp 9))⟩,
      ⟨(some 109), none, .q (.bld [(.int .i64 0), (.int .i64 0), (.int .i64 0), (.int .i64 0), (.slice none 0 0), (.slice none 0 0), (.int .i64 0), (.slice none 0 0), (.slice none 0 0), (.slice none 0 0), (.slice none 0 0), (.slice none 0 0), (.int .i64 0), (.int .i64 0), (.int .i64 0)] [(0, 1, (.const (.int .i64 1))), (1, 1, (.const (.int .i64 2))), (2, 1, (.const (.int .i64 1))), (4, 1, (.tmp 108))])⟩,
      ⟨(some 110), none, .e (.call 14 [(.tmp 107), (.tmp 109)])⟩,
      ⟨(some 106), none, .q (.mv (.tmp 110))⟩,
      ⟨(some 111), none, .q (.ext (.tmp 106) 0)⟩,
      ⟨(some 112), none, .q (.ext (.tmp 106) 1)⟩,
      ⟨(some 12), none, .q (.mv (.tmp 111))⟩,
      ⟨(some 13), none, .q (.mv (.tmp 112))⟩])
  (.seq (.ops [⟨(some 113), none, .q (.mv (.tmp 5))⟩,
      ⟨(some 114), none, .q (.mv (.tmp 113))⟩,
      ⟨(some 115), (some (114, true)), .q (.mv (.tmp 13))⟩,
      ⟨(some 116), (some (114, true)), .q (.bin .eql .num (.tmp 115) (.const (.int .i64 0)))⟩,
      ⟨(some 117), none, .q (.pick (.tmp 114) (.tmp 116) (.const (.bool false)))⟩,
      ⟨(some 118), none, .q (.mv (.tmp 117))⟩,
      ⟨(some 119), (some (118, true)), .q (.mv (.tmp 12))⟩,
      ⟨(some 120), (some (118, true)), .q (.len false (.tmp 119))⟩,
      ⟨(some 121), (some (118, true)), .q (.bin .eql .num (.tmp 120) (.const (.int .i64 0)))⟩,
      ⟨(some 122), none, .q (.pick (.tmp 118) (.tmp 121) (.const (.bool false)))⟩,
      ⟨(some 4), none, .q (.mv (.tmp 122))⟩])
  (.ret))))))))))), []⟩
theorem k_silent : compF Tryz.prog 3 = some c_silent := by kernel_rfl
set_option maxHeartbeats 16000000 in
theorem silent_law {W : World} (posts : List (Str × Str)) (more : List Str) (hps : ∀ p ∈ posts, p.1.size ≤ maxLen) : ACalls Tryz.prog W 3 [.sl false 2 (postRows posts), .sl false 1 (strRows more)] AHeap.none fun v _ => v = .v (.bool true) := by
  have hpl : (postRows posts).length = posts.length := by simp [postRows]
  have hpg := fun i (h : i < posts.length) => postRows_get h
  refine fn_run follows k_silent rfl ?_
  simp only [c_silent, aretC_nil, List.zipIdx_cons, List.zipIdx_nil, List.map_cons, List.map_nil, Nat.zero_add]
  generalize postRows posts = PR at hpl hpg
  (try simp +decide (implicitDefEqProofs := false) only [go_sem, ↓stk_g, ↓stk_c, ↓reduceIte])
  refine stk_pure awakeN_ok fun v hv => ?_
  subst hv
  (try simp +decide (implicitDefEqProofs := false) only [go_sem, ↓stk_g, ↓stk_c, ↓reduceIte])
  refine stk_call devNew_ok fun v H1 hv => ?_
  obtain ⟨d, hd, rfl, rfl⟩ := hv
  have hdev : DevH (AHeap.none.put d (.cells tDev (devCells nil 0))) d nil [] 0 := ⟨put_self _ _ _, .nil, by simp⟩
  (try simp +decide (implicitDefEqProofs := false) only [go_sem, ↓stk_g, ↓stk_c, ↓reduceIte])
  refine stk_call (nOpen_ok hdev) fun v H2 hv => ?_
  obtain ⟨g, s, l, ps, st, does, rfl, hnod⟩ := hv
  by_cases c1 : 10 < posts.length
  · have g1 : (10 : Int) < (posts.length : Int) := by omega
    (try simp +decide (implicitDefEqProofs := false) only [go_sem, ↓stk_g, ↓stk_c, ↓reduceIte, hpl, g1, Option.isNone_some, ne_eq, not_true_eq_false, lay, oneOr, List.take_succ_cons, List.take_zero, List.drop_succ_cons, List.drop_zero, List.nil_append, List.cons_append, Option.getD_some, Nat.reduceAdd, Nat.reduceLeDiff, List.append_nil, and_self, List.all_cons, List.all_nil])
    exact ⟨.inr rfl, _, _, Sub.refl _, .refl _, rfl⟩
  have g1 : ¬ (10 : Int) < (posts.length : Int) := by omega
  by_cases c2 : 10 < more.length
  · have g2 : (10 : Int) < (more.length : Int) := by omega
    (try simp +decide (implicitDefEqProofs := false) only [go_sem, ↓stk_g, ↓stk_c, ↓reduceIte, hpl, g1, g2, Option.isNone_some, ne_eq, not_true_eq_false, lay, oneOr, List.take_succ_cons, List.take_zero, List.drop_succ_cons, List.drop_zero, List.nil_append, List.cons_append, Option.getD_some, Nat.reduceAdd, Nat.reduceLeDiff, List.append_nil, and_self, List.all_cons, List.all_nil])
    exact ⟨.inr rfl, _, _, Sub.refl _, .refl _, rfl⟩
  have g2 : ¬ (10 : Int) < (more.length : Int) := by omega
  (try simp +decide (implicitDefEqProofs := false) only [go_sem, ↓stk_g, ↓stk_c, ↓reduceIte, hpl, g1, g2, Option.isNone_some, ne_eq, not_true_eq_false, lay, oneOr, List.take_succ_cons, List.take_zero, List.drop_succ_cons, List.drop_zero, List.nil_append, List.cons_append, Option.getD_some, Nat.reduceAdd, Nat.reduceLeDiff, List.append_nil, and_self, List.all_cons, List.all_nil])
  refine stk_up (α := AHeap) posts.length (fun i H => ⟨[(8, .v (.int .i64 i)), (6, ptr g), (5, .v (.bool true)), (0, .sl false 2 PR), (1, .sl false 1 (strRows more))], H⟩)
    (fun i H => ∃ pl, Nod H g 1 s l d ps st does 60000 pl ∧ pl.length ≤ i) H2 (Weak.list _ (Sub.refl _) (by (try simp +decide (implicitDefEqProofs := false) only [go_sem, ↓stk_g, ↓stk_c, ↓reduceIte]))) ⟨[], hnod.weak, by simp⟩ ?_
  rintro i H3 hi ⟨pl, hn3, hli⟩
  by_cases hlt : i < posts.length
  · have k1 : (i : Int) < (posts.length : Int) := by omega
    have hw := wrap_in (n := (i : Int) + 1) (by omega) (by omega)
    have hgt := hpg i hlt
    have hsz := hps _ (List.getElem_mem hlt)
    generalize posts[i] = p at hgt hsz
    by_cases c3 : 2000 < p.2.size
    · have k3 : (2000 : Int) < (p.2.size : Int) := by omega
      (try simp +decide (implicitDefEqProofs := false) only [go_sem, ↓stk_g, ↓stk_c, ↓reduceIte, hpl, k1, hlt, hgt, k3, lay, oneOr, List.take_succ_cons, List.take_zero, List.drop_succ_cons, List.drop_zero, List.nil_append, List.cons_append, Option.getD_some, Nat.reduceAdd, Nat.reduceLeDiff, List.append_nil, and_self, List.all_cons, List.all_nil])
      exact ⟨.inr rfl, _, _, Sub.refl _, .refl _, rfl⟩
    · have k3 : ¬ (2000 : Int) < (p.2.size : Int) := by omega
      (try simp +decide (implicitDefEqProofs := false) only [go_sem, ↓stk_g, ↓stk_c, ↓reduceIte, hpl, k1, hlt, hgt, k3, lay, oneOr, List.take_succ_cons, List.take_zero, List.drop_succ_cons, List.drop_zero, List.nil_append, List.cons_append, Option.getD_some, Nat.reduceAdd, Nat.reduceLeDiff, List.append_nil, and_self, List.all_cons, List.all_nil])
      refine stk_call (nIngest_ok hn3 p.1 p.2 hsz) fun v H4 hv => ?_
      obtain ⟨e, pl', rfl, hn4, hl4, _⟩ := hv
      (try simp +decide (implicitDefEqProofs := false) only [go_sem, ↓stk_g, ↓stk_c, ↓reduceIte, hw])
      exact ⟨H4, Weak.list _ (Sub.refl _) (by (try simp +decide (implicitDefEqProofs := false) only [go_sem, ↓stk_g, ↓stk_c, ↓reduceIte])), pl', hn4, by omega⟩
  have k1 : ¬ (i : Int) < (posts.length : Int) := by omega
  (try simp +decide (implicitDefEqProofs := false) only [go_sem, ↓stk_g, ↓stk_c, ↓reduceIte, hpl, k1, lay, oneOr, List.take_succ_cons, List.take_zero, List.drop_succ_cons, List.drop_zero, List.nil_append, List.cons_append, Option.getD_some, Nat.reduceAdd, Nat.reduceLeDiff, List.append_nil, and_self, List.all_cons, List.all_nil])
  refine stk_call (nIDs_ok hn3) fun x H4 hv => ?_
  obtain ⟨hrow, hal, hfr⟩ := hv
  have hkeys : ∀ y ∈ sortS (pl.map (·.1)), y.size ≤ 16 ∧ Lt ByteArray.empty y := fun y hy => by
    obtain ⟨e, he, rfl⟩ := List.mem_map.1 ((sortS_perm _).mem_iff.1 hy)
    obtain ⟨r, _, _, hid⟩ := hn3.sto.kv e he
    obtain ⟨h1, h2⟩ := idOk_size hid
    exact ⟨h2, empty_lt h1⟩
  obtain ⟨pc, _, hneat⟩ := hn3.sto.posts
  have hrise : riseIds ByteArray.empty (sortS (pl.map (·.1))) = true := riseIds_of _ _ (sortS_strict hneat.keys) hkeys
  have hkl : (sortS (pl.map (·.1))).length ≤ 10 := by rw [(sortS_perm _).length_eq]; simp; omega
  have hlk : ∀ t, lacksS (sortS (pl.map (·.1)) ++ t) (sortS (pl.map (·.1))) = [] := fun t => lacks_none fun z hz => List.mem_append_left _ hz
  generalize hkey : sortS (pl.map (·.1)) = keys at hrow hkeys hrise hkl hlk
  have hfr : ∀ b, blkOf x = some b → H3 b = none := hfr
  have hal : All H3 H4 := hal
  rw [stk_q]
  refine ⟨by (try simp +decide (implicitDefEqProofs := false) only [go_sem, ↓stk_g, ↓stk_c, ↓reduceIte]), ?_⟩
  rw [stk_ops_nil, stk_seq]
  refine stk_cut (fun s3 => tget s3.tm 1 = .sl false 1 (strRows more) ∧ tget s3.tm 5 = .v (.bool true) ∧ tget s3.tm 6 = ptr g ∧ tget s3.tm 9 = x ∧ tget s3.tm 10 = .v (.string ByteArray.empty) ∧ s3.H = H4) ?_ ?_
  · (try simp +decide (implicitDefEqProofs := false) only [go_sem, ↓stk_g, ↓stk_c, ↓reduceIte])
  rintro ⟨tm, H5⟩ ⟨t1, t5, t6, t9, t10, hH⟩
  dsimp only at t1 t5 t6 t9 t10 hH
  subst hH
  rw [stk_seq]
  refine stk_cut (fun s3 => tget s3.tm 1 = .sl false 1 (strRows more) ∧ tget s3.tm 5 = .v (.bool true) ∧ tget s3.tm 6 = ptr g ∧ tget s3.tm 9 = x ∧ tget s3.tm 10 = .v (.string (keys.getLastD ByteArray.empty)) ∧ s3.H = H5) ?_ ?_
  · rcases hrow.shape with ⟨rfl, e⟩ | ⟨gx, rfl, hgx⟩
    · have e0 : keys = [] := by simpa [strRows] using e
      have d0 : decide ((0 : Int) < 0) = false := by decide
      (try simp +decide (implicitDefEqProofs := false) only [go_sem, ↓stk_g, ↓stk_c, ↓reduceIte, t1, t5, t6, t9, t10, d0, lay, oneOr, List.take_succ_cons, List.take_zero, List.drop_succ_cons, List.drop_zero, List.nil_append, List.cons_append, Option.getD_some, Nat.reduceAdd, Nat.reduceLeDiff, List.append_nil, and_self, List.all_cons, List.all_nil])
      rw [e0]; rfl
    · by_cases h0 : keys.length = 0
      · have e0 : keys = [] := List.length_eq_zero_iff.1 h0
        subst e0
        have d0 : decide ((0 : Int) < 0) = false := by decide
        (try simp +decide (implicitDefEqProofs := false) only [go_sem, ↓stk_g, ↓stk_c, ↓reduceIte, t1, t5, t6, t9, t10, d0, lay, oneOr, List.take_succ_cons, List.take_zero, List.drop_succ_cons, List.drop_zero, List.nil_append, List.cons_append, Option.getD_some, Nat.reduceAdd, Nat.reduceLeDiff, List.append_nil, and_self, List.all_cons, List.all_nil])
        first | done | rfl
      · obtain ⟨m, hm⟩ : ∃ m, keys.length = m + 1 := ⟨keys.length - 1, by omega⟩
        have k5 : (0 : Int) < (keys.length : Int) := by omega
        have hw5 : IntKind.i64.wrap ((keys.length : Int) - 1) = (m : Int) := by rw [IntKind.wrap_i64]; omega
        have k6 : (m : Int) < (keys.length : Int) := by omega
        have k7 : m < keys.length := by omega
        have k8 : m < (strRows keys).length := by rw [strRows_len]; omega
        have hgk := strRows_get k7
        have hlast : keys.getD m ByteArray.empty = keys.getLastD ByteArray.empty := by
          rw [List.getLastD_eq_getLast?, List.getLast?_eq_getElem?, List.getD_eq_getElem?_getD, show keys.length - 1 = m by omega]
        rw [hlast] at hgk
        rw [strRows_len] at t9
        (try simp +decide (implicitDefEqProofs := false) only [go_sem, ↓stk_g, ↓stk_c, ↓reduceIte, t1, t5, t6, t9, t10, k5, hw5, k6, k7, k8, hgk, hgx, lay, oneOr, List.take_succ_cons, List.take_zero, List.drop_succ_cons, List.drop_zero, List.nil_append, List.cons_append, Option.getD_some, Nat.reduceAdd, Nat.reduceLeDiff, List.append_nil, and_self, List.all_cons, List.all_nil])
  clear t1 t5 t6 t9 t10
  rintro ⟨tm, H4⟩ ⟨t1, t5, t6, t9, t10, hH⟩
  dsimp only at t1 t5 t6 t9 t10 hH
  subst hH
  (try simp +decide (implicitDefEqProofs := false) only [go_sem, ↓stk_g, ↓stk_c, ↓reduceIte, t1, t5, t6, t9, t10, lay, oneOr, List.take_succ_cons, List.take_zero, List.drop_succ_cons, List.drop_zero, List.nil_append, List.cons_append, Option.getD_some, Nat.reduceAdd, Nat.reduceLeDiff, List.append_nil, and_self, List.all_cons, List.all_nil])
  refine stk_up (α := AVal × AHeap × Str) more.length (fun j q => ⟨[(11, .v (.int .i64 j)), (10, .v (.string q.2.2)), (9, q.1), (6, ptr g), (5, .v (.bool true)), (1, .sl false 1 (strRows more))], q.2.1⟩)
    (fun j q => RowO q.2.1 9 1 q.1 (strRows (keys ++ more.take j)) ∧ All H3 q.2.1 ∧ (∀ b, blkOf q.1 = some b → H3 b = none) ∧ riseIds ByteArray.empty (keys ++ more.take j) = true ∧ q.2.2 = (keys ++ more.take j).getLastD ByteArray.empty)
    (x, H4, keys.getLastD ByteArray.empty) (Weak.list _ (Sub.refl _) (by (try simp +decide (implicitDefEqProofs := false) only [go_sem, ↓stk_g, ↓stk_c, ↓reduceIte, t1, t5, t6, t9, t10]))) ⟨by simpa using hrow, hal, hfr, by simpa using hrise, by simp⟩ ?_
  rintro j ⟨y, H6, last⟩ hj ⟨hrow6, hal6, hfr6, hrise6, hlast6⟩
  dsimp only at hrow6 hal6 hfr6 hrise6 hlast6
  by_cases hltj : j < more.length
  · have k1 : (j : Int) < (more.length : Int) := by omega
    have hw := wrap_in (n := (j : Int) + 1) (by omega) (by omega)
    have hgt := strRows_get hltj
    have htk : more.take (j + 1) = more.take j ++ [more.getD j ByteArray.empty] := by rw [List.take_succ_eq_append_getElem hltj]; simp [hltj]
    have hend := riseIds_end (keys ++ more.take j) ByteArray.empty (more.getD j ByteArray.empty)
    rw [hrise6, ← hlast6, Bool.true_and] at hend
    generalize more.getD j ByteArray.empty = m at hgt htk hend
    cases hle : (strLt m last || decide (m = last))
    · by_cases c3 : 16 < m.size
      · have k3 : (16 : Int) < (m.size : Int) := by omega
        (try simp +decide (implicitDefEqProofs := false) only [go_sem, ↓stk_g, ↓stk_c, ↓reduceIte, k1, hltj, hgt, hle, k3, lay, oneOr, List.take_succ_cons, List.take_zero, List.drop_succ_cons, List.drop_zero, List.nil_append, List.cons_append, Option.getD_some, Nat.reduceAdd, Nat.reduceLeDiff, List.append_nil, and_self, List.all_cons, List.all_nil])
        exact ⟨.inr rfl, _, _, Sub.refl _, .refl _, rfl⟩
      · have k3 : ¬ (16 : Int) < (m.size : Int) := by omega
        have hst : stepS last m = true := by
          unfold stepS gtS; rw [hle, decide_eq_true (by omega)]; rfl
        rw [hst] at hend
        have hln : (strRows (keys ++ more.take j)).length ≤ 100 := by rw [strRows_len, List.length_append, List.length_take]; omega
        (try simp +decide (implicitDefEqProofs := false) only [go_sem, ↓stk_g, ↓stk_c, ↓reduceIte, k1, hltj, hgt, hle, k3, lay, oneOr, List.take_succ_cons, List.take_zero, List.drop_succ_cons, List.drop_zero, List.nil_append, List.cons_append, Option.getD_some, Nat.reduceAdd, Nat.reduceLeDiff, List.append_nil, and_self, List.all_cons, List.all_nil])
        refine stk_appF (rows := strRows (keys ++ more.take j)) hrow6 (by rfl) (by simp only [List.length_cons, List.length_nil]; omega) fun y2 H7 hr2 hrest hfr2 => ?_
        (try simp +decide (implicitDefEqProofs := false) only [go_sem, ↓stk_g, ↓stk_c, ↓reduceIte, k1, hltj, hgt, hw, lay, oneOr, List.take_succ_cons, List.take_zero, List.drop_succ_cons, List.drop_zero, List.nil_append, List.cons_append, Option.getD_some, Nat.reduceAdd, Nat.reduceLeDiff, List.append_nil, and_self, List.all_cons, List.all_nil])
        refine ⟨(y2, H7, m), Weak.list _ (Sub.refl _) (by (try simp +decide (implicitDefEqProofs := false) only [go_sem, ↓stk_g, ↓stk_c, ↓reduceIte])), ?_, fun b o hb => ?_, fun b hb => ?_, ?_, ?_⟩
        · rw [htk, ← List.append_assoc]
          have e9 : strRows (keys ++ more.take j ++ [m]) = strRows (keys ++ more.take j) ++ [[.v (.string m)]] := by simp [strRows, strRow]
          rw [e9]; exact hr2
        · exact hrest b o (hal6 b o hb) (fun e => by rw [hfr6 b e] at hb; cases hb)
        · rcases hfr2 b hb with h' | h'
          · exact hfr6 b h'
          · exact hal6.fresh h'
        · rw [htk, ← List.append_assoc]; exact hend
        · rw [htk, ← List.append_assoc]; simp
    · (try simp +decide (implicitDefEqProofs := false) only [go_sem, ↓stk_g, ↓stk_c, ↓reduceIte, k1, hltj, hgt, hle, lay, oneOr, List.take_succ_cons, List.take_zero, List.drop_succ_cons, List.drop_zero, List.nil_append, List.cons_append, Option.getD_some, Nat.reduceAdd, Nat.reduceLeDiff, List.append_nil, and_self, List.all_cons, List.all_nil])
      exact ⟨.inr rfl, _, _, Sub.refl _, .refl _, rfl⟩
  have k1 : ¬ (j : Int) < (more.length : Int) := by omega
  rw [List.take_of_length_le (by omega)] at hrow6 hrise6
  have hfz : FZ H6 H3 y (.sl false 1 (strRows (keys ++ more))) := hrow6.row.fz (strGood _) (fun c hc => hfr6 c hc)
  have hdf := digFZ hfz rfl
  unfold digC at hdf
  have htake := nTake_ok (W := W) hn3 (keys ++ more) (by rw [List.length_append]; omega) hrise6
  rw [hkey, hlk more] at htake
  rcases hrow6.shape with ⟨rfl, _⟩ | ⟨gy, rfl, _⟩
  · (try simp +decide (implicitDefEqProofs := false) only [go_sem, ↓stk_g, ↓stk_c, ↓reduceIte, k1, lay, oneOr, List.take_succ_cons, List.take_zero, List.drop_succ_cons, List.drop_zero, List.nil_append, List.cons_append, Option.getD_some, Nat.reduceAdd, Nat.reduceLeDiff, List.append_nil, and_self, List.all_cons, List.all_nil])
    refine stk_callW ⟨[(107, ptr g), (109, .agg (digC (.sl false 1 (strRows (keys ++ more))))), (5, .v (.bool true))], H3⟩ (Weak.list _ hal6 ?_) htake fun v H8 hv => ?_
    · (try simp +decide (implicitDefEqProofs := false) only [go_sem, ↓stk_g, ↓stk_c, ↓reduceIte])
      unfold digC
      (try rw [strRows_len] at hdf)
      exact hdf
    obtain ⟨Y, rfl, k, hsh, hans⟩ := hv
    have hY : Y = nil := by
      rcases hans with ⟨_, h⟩ | ⟨h, _⟩
      · exact h
      · simp at h
    subst hY
    have d0 : decide ((0 : Int) = 0) = true := rfl
    (try simp +decide (implicitDefEqProofs := false) only [go_sem, ↓stk_g, ↓stk_c, ↓reduceIte, d0, lay, oneOr, List.take_succ_cons, List.take_zero, List.drop_succ_cons, List.drop_zero, List.nil_append, List.cons_append, Option.getD_some, Nat.reduceAdd, Nat.reduceLeDiff, List.append_nil, and_self, List.all_cons, List.all_nil])
    exact ⟨.inr rfl, _, _, Sub.refl _, .refl _, rfl⟩
  · (try simp +decide (implicitDefEqProofs := false) only [go_sem, ↓stk_g, ↓stk_c, ↓reduceIte, k1, lay, oneOr, List.take_succ_cons, List.take_zero, List.drop_succ_cons, List.drop_zero, List.nil_append, List.cons_append, Option.getD_some, Nat.reduceAdd, Nat.reduceLeDiff, List.append_nil, and_self, List.all_cons, List.all_nil])
    refine stk_callW ⟨[(107, ptr g), (109, .agg (digC (.sl false 1 (strRows (keys ++ more))))), (5, .v (.bool true))], H3⟩ (Weak.list _ hal6 ?_) htake fun v H8 hv => ?_
    · (try simp +decide (implicitDefEqProofs := false) only [go_sem, ↓stk_g, ↓stk_c, ↓reduceIte])
      unfold digC
      (try rw [strRows_len] at hdf)
      exact hdf
    obtain ⟨Y, rfl, k, hsh, hans⟩ := hv
    have hY : Y = nil := by
      rcases hans with ⟨_, h⟩ | ⟨h, _⟩
      · exact h
      · simp at h
    subst hY
    have d0 : decide ((0 : Int) = 0) = true := rfl
    (try simp +decide (implicitDefEqProofs := false) only [go_sem, ↓stk_g, ↓stk_c, ↓reduceIte, d0, lay, oneOr, List.take_succ_cons, List.take_zero, List.drop_succ_cons, List.drop_zero, List.nil_append, List.cons_append, Option.getD_some, Nat.reduceAdd, Nat.reduceLeDiff, List.append_nil, and_self, List.all_cons, List.all_nil])
    exact ⟨.inr rfl, _, _, Sub.refl _, .refl _, rfl⟩
end Go.Proofs.YtcbagpippmbmfaaGreatDoor.M
