/-
  The document's own Decode of layer 15; the law MsgReads: walked.
-/
import Derived.Test.YtcplmaffccfbdaaGreatDoorRb
import Derived.Test.YtcplmaffccfbdaaGreatDoorPrread
namespace Go.Proofs.YtcplmaffccfbdaaGreatDoor.M
open Go.RowKit
attribute [local go_sem] stk_nil stk_skip stk_ops stk_seq stk_block stk_scope stk_exit stk_ret stk_code_exit stk_code_ret stk_ops_exit stk_ops_ret stk_endb stk_endb_exit stk_endb_ret stk_endl stk_endl_exit stk_endl_ret stk_ops_nil stk_q stk_niq niqA flip srcOf stk_bsl side val bside bval uside uval cside cval bndS bndV intA isInt lside lval fside fval faside faval iside ival sxside sxval sizeA slside slval llside llval lenside lenval lenA tupA mmside mmval nkside boolA isBool ev_t ev_c tget put_s put_n lkside lkval menval stk_mk Option.isSome_some isMapA mapA keyA FZ_rfl FZ_any retOf true_and and_true if_true if_false decide_true decide_false Bool.not_true Bool.not_false Nat.zero_add List.map_cons List.map_nil Int.toNat_natCast strRows_len intRows_len List.getD_cons_zero List.getD_cons_succ List.length_cons List.length_nil List.forall_mem_cons List.not_mem_nil false_implies implies_true Int.ofNat_zero Int.natCast_add Int.natCast_one Int.ofNat_one Int.natCast_zero isB isU Bool.false_eq_true beq_self_eq_true Bool.false_beq Bool.true_beq Int.natCast_nonneg undef strRows_take strRows_drop Int.toNat_zero List.drop_zero Bool.and_true oneOr List.all_cons List.all_nil AVal.one Value.oneCell' Bool.true_and List.take_length stk_st' stside stH hp_self hp_hp isnside isnval lay List.take_succ_cons List.take_zero List.drop_succ_cons List.nil_append List.cons_append Option.getD_some List.append_nil and_self
set_option linter.unusedVariables false
set_option linter.unusedSimpArgs false
def assembleR (l : List Str) : Msg := withM ⟨numR (l.getD 0 ByteArray.empty), numR (l.getD 1 ByteArray.empty), numR (l.getD 2 ByteArray.empty), numR (l.getD 3 ByteArray.empty), [], [], pol0⟩ (l.drop 4)
def decodeRL (s : Str) (q : List Str × Str) : Msg × Int :=
  if begsR q.2 = true then (msg0, 3)
  else if q.2 ≠ ByteArray.empty ∨ q.1.length < 4 then (msg0, 2)
  else if rightM (assembleR q.1) = true ∧ msgT (assembleR q.1) = s then (assembleR q.1, 0) else (msg0, 2)
def decodeRV (s : Str) : Msg × Int := decodeRL s (fieldsR s.size s)
theorem assembleR_back {m : Msg} (hm : rightM m = true) : assembleR (fieldsM m) = m := by
  have R := rightM_facts hm
  have h1 := R.frm; have h2 := R.dst; have h3 := R.epoch; have h4 := R.kind
  have e : assembleR (fieldsM m) = assembleM (fieldsM m) := by
    show withM ⟨numR (itoaS m.kind), numR (itoaS m.frm), numR (itoaS m.dst), numR (itoaS m.epoch), [], [], pol0⟩ _ = withM ⟨numN (itoaS m.kind), numN (itoaS m.frm), numN (itoaS m.dst), numN (itoaS m.epoch), [], [], pol0⟩ _
    rw [numN_itoa m.kind (by omega) (by omega), numN_itoa m.frm (by omega) (by omega), numN_itoa m.dst (by omega) (by omega), numN_itoa m.epoch (by omega) (by omega), numR_itoa m.kind (by omega) (by omega), numR_itoa m.frm (by omega) (by omega), numR_itoa m.dst (by omega) (by omega), numR_itoa m.epoch (by omega) (by omega)]
  rw [e, assemble_back hm]
theorem fields_parse : ∀ (n : Nat) (s : Str), s.size ≤ n → ((fieldsR n s).2 = ByteArray.empty ∧ parseF n s = .inr (fieldsR n s).1) ∨ ((fieldsR n s).2 ≠ ByteArray.empty ∧ parseF n s = .inl (fieldV (fieldsR n s).2).2.2)
  | 0, s, h => .inl ⟨ByteArray.ext (Array.eq_empty_of_size_eq_zero (show s.size = 0 by omega)), rfl⟩
  | n + 1, s, h => by
    by_cases hs : s = ByteArray.empty
    · subst hs
      rw [fieldsR_nil, parseF_nil]; exact .inl ⟨rfl, rfl⟩
    by_cases he : (fieldV s).2.2 = 0
    · obtain ⟨z1, z2⟩ := fieldV_size he
      rw [fieldsR_good hs he, parseF_step hs he]
      rcases fields_parse n (fieldV s).2.1 (by omega) with ⟨h1, h2⟩ | ⟨h1, h2⟩
      · exact .inl ⟨h1, by rw [h2]; rfl⟩
      · exact .inr ⟨h1, by rw [h2]; rfl⟩
    · rw [fieldsR_bad hs he, parseF_err hs he]
      exact .inr ⟨hs, rfl⟩
theorem fieldsR_size : ∀ (n : Nat) (s : Str), s.size ≤ n → (∀ x ∈ (fieldsR n s).1, x.size ≤ s.size) ∧ (fieldsR n s).2.size ≤ s.size ∧ (fieldsR n s).1.length ≤ s.size
  | 0, s, h => ⟨(fun x h => by cases h), Nat.le_refl _, Nat.zero_le _⟩
  | n + 1, s, h => by
    by_cases hs : s = ByteArray.empty
    · subst hs
      rw [fieldsR_nil]; exact ⟨(fun x h => by cases h), Nat.le_refl _, Nat.zero_le _⟩
    by_cases he : (fieldV s).2.2 = 0
    · obtain ⟨z1, z2⟩ := fieldV_size he
      obtain ⟨a1, a2, a3⟩ := fieldsR_size n (fieldV s).2.1 (by omega)
      rw [fieldsR_good hs he]
      refine ⟨fun x hx => ?_, by dsimp only; omega, by dsimp only; rw [List.length_cons]; omega⟩
      rcases List.mem_cons.1 hx with rfl | hx
      · exact z1
      · have := a1 x hx; omega
    · rw [fieldsR_bad hs he]
      exact ⟨(fun x h => by cases h), Nat.le_refl _, Nat.zero_le _⟩
theorem decodeRV_eq (s : Str) : decodeRV s = decodeV s := by
  unfold decodeRV decodeV
  rcases fields_parse s.size s (Nat.le_refl _) with ⟨h1, h2⟩ | ⟨h1, h2⟩
  · rw [h2]
    generalize fieldsR s.size s = q at h1 h2
    obtain ⟨l, left⟩ := q
    dsimp only at h1 h2
    subst h1
    have hb : begsR ByteArray.empty = false := by decide +kernel
    unfold decodeRL decodeL
    dsimp only
    rw [hb, if_neg (by decide)]
    by_cases h4 : l.length < 4
    · rw [if_pos (.inr h4), if_pos h4]
    rw [if_neg (fun h => h.elim (fun h => h rfl) h4), if_neg h4]
    have same : ∀ m, rightM m = true → msgT m = s → l = fieldsM m := fun m hm ht => by
      rw [← ht, msgT_cat, parse_cat _ (fieldsM_size hm)] at h2
      exact (Sum.inr.inj h2).symm
    by_cases c1 : rightM (assembleM l) = true ∧ msgT (assembleM l) = s
    · have e := same _ c1.1 c1.2
      have e2 : assembleR l = assembleM l := by rw [e, assembleR_back c1.1, assemble_back c1.1]
      rw [e2, if_pos c1]
    · rw [if_neg c1]
      by_cases c2 : rightM (assembleR l) = true ∧ msgT (assembleR l) = s
      · have e := same _ c2.1 c2.2
        have e2 : assembleM l = assembleR l := by rw [e, assembleR_back c2.1, assemble_back c2.1]
        rw [e2] at c1
        exact absurd c2 c1
      · rw [if_neg c2]
  · rw [h2]
    have herr := parseF_err2 _ _ _ h2
    generalize fieldsR s.size s = q at h1 h2 herr
    obtain ⟨l, left⟩ := q
    dsimp only at h1 h2 herr
    unfold decodeRL decodeL begsR
    dsimp only
    rcases herr with h | h
    · rw [h, if_neg (by decide), if_pos (.inl h1)]
    · rw [h, if_pos (by decide)]
theorem Row.shape {H : AHeap} {E sz : Nat} {x : AVal} {rows : List (List AVal)} (h : Row H E sz x rows) : x = .v (.slice none 0 0) ∨ (∃ f r, x = .sl f sz r) ∨ ∃ g n, x = .bs g sz n := by
  cases h with
  | nil => exact .inl rfl
  | sl rows => exact .inr (.inl ⟨_, _, rfl⟩)
  | bs h => exact .inr (.inr ⟨_, _, rfl⟩)
theorem Row.put2 {H : AHeap} {E sz b T : Nat} {x : AVal} {rows : List (List AVal)} {cs : List AVal} {o : AObj} (h : Row H E sz x rows) (hb : H b = some (.cells T cs)) : Row (H.put b o) E sz x rows := by
  cases h with
  | nil => exact .nil
  | sl rows => exact .sl rows
  | @bs g rows h => exact .bs (by rw [hp_ne _ _ (fun e => by rw [e, hb] at h; cases h)]; exact h)
theorem Row.gone2 {H : AHeap} {E sz r T : Nat} {x : AVal} {rows : List (List AVal)} {cs : List AVal} {o : AObj} (h : Row H E sz x rows) (hr : H r = some (.cells T cs)) : ∀ b, blkOf x = some b → (AHeap.none.put r o) b = none := fun b hb => by
  cases h with
  | nil => cases hb
  | sl rows => cases hb
  | @bs g rows h =>
    have e : g = b := Option.some.inj hb
    rw [hp_ne]; rfl
    intro e2; rw [← e2, ← e, h] at hr; cases hr
def c_Decode15_t : ACode := (.seq (.ops [⟨(some 46), none, .q (.mv (.tmp 4))⟩,
      ⟨(some 47), none, .q (.lsl 1 (.tmp 46) (some (.const (.int .i64 4))) none none)⟩,
      ⟨(some 7), none, .q (.mv (.tmp 47))⟩])
  (.seq (.seq (.ops [⟨(some 48), none, .q (.fad 0 1 (.tmp 6))⟩,
      ⟨(some 49), none, .q (.ld false 1 (.tmp 48))⟩,
      ⟨(some 50), none, .q (.bin .eql .num (.tmp 49) (.const (.int .i64 3)))⟩,
      ⟨(some 51), none, .q (.mv (.tmp 50))⟩,
      ⟨(some 52), (some (51, true)), .q (.mv (.tmp 7))⟩,
      ⟨(some 53), (some (51, true)), .q (.len false (.tmp 52))⟩,
      ⟨(some 54), (some (51, true)), .q (.bin .eql .num (.tmp 53) (.const (.int .i64 1)))⟩,
      ⟨(some 55), none, .q (.pick (.tmp 51) (.tmp 54) (.const (.bool false)))⟩])
  (.cond (.tmp 55)
    (.seq (.ops [⟨(some 57), none, .q (.mv (.tmp 7))⟩,
        ⟨(some 58), none, .q (.ixa 1 (.tmp 57) (.const (.int .i64 0)))⟩,
        ⟨(some 59), none, .q (.ld false 1 (.tmp 58))⟩,
        ⟨(some 60), none, .e (.call 33 [(.tmp 59)])⟩,
        ⟨(some 56), none, .q (.mv (.tmp 60))⟩,
        ⟨(some 61), none, .q (.ext (.tmp 56) 0)⟩,
        ⟨(some 62), none, .q (.ext (.tmp 56) 1)⟩,
        ⟨(some 8), none, .e (.alloc 25 [(.int .i64 0), (.slice none 0 0), (.slice none 0 0), (.slice none 0 0), (.slice none 0 0), (.slice none 0 0), (.int .i64 0), (.int .i64 0), (.int .i64 0)])⟩,
        ⟨none, none, .e (.st 9 (.tmp 8) (.tmp 61))⟩,
        ⟨(some 9), none, .q (.mv (.tmp 62))⟩])
    (.ops [⟨(some 63), none, .q (.ld true 9 (.tmp 8))⟩,
        ⟨(some 64), none, .q (.fad 6 9 (.tmp 6))⟩,
        ⟨none, none, .e (.st 9 (.tmp 64) (.tmp 63))⟩]))
    (.skip)))
  (.seq (.seq (.ops [⟨(some 65), none, .q (.fad 0 1 (.tmp 6))⟩,
      ⟨(some 66), none, .q (.ld false 1 (.tmp 65))⟩,
      ⟨(some 67), none, .q (.bin .eql .num (.tmp 66) (.const (.int .i64 1)))⟩,
      ⟨(some 68), none, .q (.mv (.tmp 67))⟩,
      ⟨(some 69), (some (68, false)), .q (.fad 0 1 (.tmp 6))⟩,
      ⟨(some 70), (some (68, false)), .q (.ld false 1 (.tmp 69))⟩,
      ⟨(some 71), (some (68, false)), .q (.bin .eql .num (.tmp 70) (.const (.int .i64 2)))⟩,
      ⟨(some 72), none, .q (.pick (.tmp 68) (.const (.bool true)) (.tmp 71))⟩,
      ⟨(some 73), none, .q (.mv (.tmp 72))⟩,
      ⟨(some 74), (some (73, true)), .q (.mv (.tmp 7))⟩,
      ⟨(some 75), (some (73, true)), .q (.len false (.tmp 74))⟩,
      ⟨(some 76), (some (73, true)), .q (.bin .gtr .num (.tmp 75) (.const (.int .i64 0)))⟩,
      ⟨(some 77), none, .q (.pick (.tmp 73) (.tmp 76) (.const (.bool false)))⟩])
  (.cond (.tmp 77)
    (.ops [⟨(some 78), none, .q (.mv (.tmp 7))⟩,
        ⟨(some 79), none, .q (.lsl 1 (.tmp 78) (some (.const (.int .i64 1))) none none)⟩,
        ⟨(some 7), none, .q (.mv (.tmp 79))⟩])
    (.skip)))
  (.seq (.seq (.ops [⟨(some 80), none, .q (.fad 0 1 (.tmp 6))⟩,
      ⟨(some 81), none, .q (.ld false 1 (.tmp 80))⟩,
      ⟨(some 82), none, .q (.bin .eql .num (.tmp 81) (.const (.int .i64 1)))⟩])
  (.cond (.tmp 82)
    (.ops [⟨(some 83), none, .e (.bsl 9 1 [])⟩,
        ⟨(some 84), none, .q (.mv (.tmp 7))⟩,
        ⟨(some 85), none, .e (.app 9 1 16 false (.tmp 83) (.tmp 84))⟩,
        ⟨(some 86), none, .q (.fad 4 1 (.tmp 6))⟩,
        ⟨none, none, .e (.st 1 (.tmp 86) (.tmp 85))⟩])
    (.skip)))
  (.seq (.seq (.ops [⟨(some 10), none, .q (.mv (.const (.int .i64 0)))⟩])
  (.block 0 (.loop (.seq (.seq (.ops [⟨(some 87), none, .q (.fad 0 1 (.tmp 6))⟩,
          ⟨(some 88), none, .q (.ld false 1 (.tmp 87))⟩,
          ⟨(some 89), none, .q (.bin .eql .num (.tmp 88) (.const (.int .i64 2)))⟩,
          ⟨(some 90), none, .q (.mv (.tmp 89))⟩,
          ⟨(some 91), (some (90, true)), .q (.mv (.tmp 10))⟩,
          ⟨(some 92), (some (90, true)), .q (.bin .add .num (.tmp 91) (.const (.int .i64 1)))⟩,
          ⟨(some 93), (some (90, true)), .q (.mv (.tmp 7))⟩,
          ⟨(some 94), (some (90, true)), .q (.len false (.tmp 93))⟩,
          ⟨(some 95), (some (90, true)), .q (.bin .lss .num (.tmp 92) (.tmp 94))⟩,
          ⟨(some 96), none, .q (.pick (.tmp 90) (.tmp 95) (.const (.bool false)))⟩])
      (.cond (.tmp 96)
        (.skip)
        (.exit 0)))
      (.seq (.block 1 (.ops [⟨(some 99), none, .q (.fad 5 1 (.tmp 6))⟩,
            ⟨(some 100), none, .q (.ld false 1 (.tmp 99))⟩,
            ⟨(some 101), none, .q (.mv (.tmp 7))⟩,
            ⟨(some 102), none, .q (.mv (.tmp 10))⟩,
            ⟨(some 103), none, .q (.ixa 1 (.tmp 101) (.tmp 102))⟩,
            ⟨(some 104), none, .q (.ld false 1 (.tmp 103))⟩,
            ⟨(some 105), none, .q (.mv (.tmp 7))⟩,
            ⟨(some 106), none, .q (.mv (.tmp 10))⟩,
            ⟨(some 107), none, .q (.bin .add .num (.tmp 106) (.const (.int .i64 1)))⟩,
            ⟨(some 108), none, .q (.ixa 1 (.tmp 105) (.tmp 107))⟩,
            ⟨(some 109), none, .q (.ld false 1 (.tmp 108))⟩,
            ⟨(some 110), none, .q (.bld [(.string ByteArray.empty), (.string ByteArray.empty)] [(0, 1, (.tmp 104)), (1, 1, (.tmp 109))])⟩,
            ⟨(some 111), none, .e (.bsl 38 2 [(.tmp 110)])⟩,
            ⟨(some 112), none, .e (.app 38 2 32 false (.tmp 100) (.tmp 111))⟩,
            ⟨(some 113), none, .q (.fad 5 1 (.tmp 6))⟩,
            ⟨none, none, .e (.st 1 (.tmp 113) (.tmp 112))⟩]))
      (.ops [⟨(some 97), none, .q (.mv (.tmp 10))⟩,
          ⟨(some 98), none, .q (.bin .add .num (.tmp 97) (.const (.int .i64 2)))⟩,
          ⟨(some 10), none, .q (.mv (.tmp 98))⟩]))))))
  (.seq (.ops [⟨(some 115), none, .q (.ld true 15 (.tmp 6))⟩,
      ⟨(some 116), none, .e (.call 8 [(.tmp 115)])⟩,
      ⟨(some 114), none, .q (.mv (.tmp 116))⟩,
      ⟨(some 117), none, .q (.ext (.tmp 114) 0)⟩,
      ⟨(some 118), none, .q (.ext (.tmp 114) 1)⟩,
      ⟨(some 11), none, .q (.mv (.tmp 117))⟩,
      ⟨(some 12), none, .q (.mv (.tmp 118))⟩])
  (.seq (.seq (.ops [⟨(some 119), none, .q (.mv (.tmp 12))⟩,
      ⟨(some 120), none, .q (.bin .neq .num (.tmp 119) (.const (.int .i64 0)))⟩,
      ⟨(some 121), none, .q (.mv (.tmp 120))⟩,
      ⟨(some 122), (some (121, false)), .q (.mv (.tmp 11))⟩,
      ⟨(some 123), (some (121, false)), .q (.mv (.tmp 0))⟩,
      ⟨(some 124), (some (121, false)), .q (.bin .neq .num (.tmp 122) (.tmp 123))⟩,
      ⟨(some 125), none, .q (.pick (.tmp 121) (.const (.bool true)) (.tmp 124))⟩])
  (.cond (.tmp 125)
    (.seq (.ops [⟨(some 126), none, .q (.bld [(.int .i64 0), (.int .i64 0), (.int .i64 0), (.int .i64 0), (.slice none 0 0), (.slice none 0 0), (.int .i64 0), (.slice none 0 0), (.slice none 0 0), (.slice none 0 0), (.slice none 0 0), (.slice none 0 0), (.int .i64 0), (.int .i64 0), (.int .i64 0)] [])⟩,
        ⟨none, none, .e (.st 15 (.tmp 2) (.tmp 126))⟩,
        ⟨(some 3), none, .q (.mv (.const (.int .i64 2)))⟩])
    (.ret))
    (.skip)))
  (.seq (.ops [⟨(some 127), none, .q (.ld true 15 (.tmp 6))⟩,
      ⟨none, none, .e (.st 15 (.tmp 2) (.tmp 127))⟩,
      ⟨(some 3), none, .q (.mv (.const (.int .i64 0)))⟩])
  (.ret)))))))))
def c_Decode15 : AFn := ⟨1, 128, [128, 3],
  .seq (.ops [⟨(some 2), none, .e (.alloc 27 [(.int .i64 0), (.int .i64 0), (.int .i64 0), (.int .i64 0), (.slice none 0 0), (.slice none 0 0), (.int .i64 0), (.slice none 0 0), (.slice none 0 0), (.slice none 0 0), (.slice none 0 0), (.slice none 0 0), (.int .i64 0), (.int .i64 0), (.int .i64 0)])⟩,
      ⟨(some 3), none, .q (.mv (.const (.int .i64 0)))⟩])
  (.seq (.ops [⟨(some 14), none, .q (.mv (.tmp 0))⟩,
      ⟨(some 15), none, .e (.call 30 [(.tmp 14)])⟩,
      ⟨(some 13), none, .q (.mv (.tmp 15))⟩,
      ⟨(some 16), none, .q (.ext (.tmp 13) 0)⟩,
      ⟨(some 17), none, .q (.ext (.tmp 13) 1)⟩,
      ⟨(some 4), none, .q (.mv (.tmp 16))⟩,
      ⟨(some 5), none, .q (.mv (.tmp 17))⟩])
  (.seq (.seq (.ops [⟨(some 18), none, .q (.mv (.tmp 5))⟩,
      ⟨(some 19), none, .e (.call 31 [(.tmp 18)])⟩])
  (.cond (.tmp 19)
    (.seq (.ops [⟨(some 20), none, .q (.bld [(.int .i64 0), (.int .i64 0), (.int .i64 0), (.int .i64 0), (.slice none 0 0), (.slice none 0 0), (.int .i64 0), (.slice none 0 0), (.slice none 0 0), (.slice none 0 0), (.slice none 0 0), (.slice none 0 0), (.int .i64 0), (.int .i64 0), (.int .i64 0)] [])⟩,
        ⟨none, none, .e (.st 15 (.tmp 2) (.tmp 20))⟩,
        ⟨(some 3), none, .q (.mv (.const (.int .i64 3)))⟩])
    (.ret))
    (.skip)))
  (.seq (.seq (.ops [⟨(some 21), none, .q (.mv (.tmp 5))⟩,
      ⟨(some 22), none, .q (.bin .neq .num (.tmp 21) (.const (.string ByteArray.empty)))⟩,
      ⟨(some 23), none, .q (.mv (.tmp 22))⟩,
      ⟨(some 24), (some (23, false)), .q (.mv (.tmp 4))⟩,
      ⟨(some 25), (some (23, false)), .q (.len false (.tmp 24))⟩,
      ⟨(some 26), (some (23, false)), .q (.bin .lss .num (.tmp 25) (.const (.int .i64 4)))⟩,
      ⟨(some 27), none, .q (.pick (.tmp 23) (.const (.bool true)) (.tmp 26))⟩])
  (.cond (.tmp 27)
    (.seq (.ops [⟨(some 28), none, .q (.bld [(.int .i64 0), (.int .i64 0), (.int .i64 0), (.int .i64 0), (.slice none 0 0), (.slice none 0 0), (.int .i64 0), (.slice none 0 0), (.slice none 0 0), (.slice none 0 0), (.slice none 0 0), (.slice none 0 0), (.int .i64 0), (.int .i64 0), (.int .i64 0)] [])⟩,
        ⟨none, none, .e (.st 15 (.tmp 2) (.tmp 28))⟩,
        ⟨(some 3), none, .q (.mv (.const (.int .i64 2)))⟩])
    (.ret))
    (.skip)))
  (.seq (.seq (.ops [⟨(some 29), none, .q (.mv (.tmp 4))⟩,
      ⟨(some 30), none, .q (.ixa 1 (.tmp 29) (.const (.int .i64 0)))⟩,
      ⟨(some 31), none, .q (.ld false 1 (.tmp 30))⟩,
      ⟨(some 33), none, .q (.mv (.tmp 4))⟩,
      ⟨(some 34), none, .q (.ixa 1 (.tmp 33) (.const (.int .i64 1)))⟩,
      ⟨(some 35), none, .q (.ld false 1 (.tmp 34))⟩,
      ⟨(some 37), none, .q (.mv (.tmp 4))⟩,
      ⟨(some 38), none, .q (.ixa 1 (.tmp 37) (.const (.int .i64 2)))⟩,
      ⟨(some 39), none, .q (.ld false 1 (.tmp 38))⟩,
      ⟨(some 41), none, .q (.mv (.tmp 4))⟩,
      ⟨(some 42), none, .q (.ixa 1 (.tmp 41) (.const (.int .i64 3)))⟩,
      ⟨(some 43), none, .q (.ld false 1 (.tmp 42))⟩])
  (.both (.seq (.ops [⟨(some 32), none, .e (.callq 32 [(.tmp 31)])⟩])
    (.both (.seq (.ops [⟨(some 36), none, .e (.callq 32 [(.tmp 35)])⟩])
      (.both (.seq (.ops [⟨(some 40), none, .e (.callq 32 [(.tmp 39)])⟩])
        (.both (.ops [⟨(some 44), none, .e (.call 32 [(.tmp 43)])⟩,
              ⟨(some 45), none, .q (.bld [(.int .i64 0), (.int .i64 0), (.int .i64 0), (.int .i64 0), (.slice none 0 0), (.slice none 0 0), (.int .i64 0), (.slice none 0 0), (.slice none 0 0), (.slice none 0 0), (.slice none 0 0), (.slice none 0 0), (.int .i64 0), (.int .i64 0), (.int .i64 0)] [(0, 1, (.tmp 32)), (1, 1, (.tmp 36)), (2, 1, (.tmp 40)), (3, 1, (.tmp 44))])⟩,
              ⟨(some 6), none, .e (.alloc 27 [(.int .i64 0), (.int .i64 0), (.int .i64 0), (.int .i64 0), (.slice none 0 0), (.slice none 0 0), (.int .i64 0), (.slice none 0 0), (.slice none 0 0), (.slice none 0 0), (.slice none 0 0), (.slice none 0 0), (.int .i64 0), (.int .i64 0), (.int .i64 0)])⟩,
              ⟨none, none, .e (.st 15 (.tmp 6) (.tmp 45))⟩])
        (.ops [⟨(some 6), none, .e (.alloc 27 [(.int .i64 0), (.int .i64 0), (.int .i64 0), (.int .i64 0), (.slice none 0 0), (.slice none 0 0), (.int .i64 0), (.slice none 0 0), (.slice none 0 0), (.slice none 0 0), (.slice none 0 0), (.slice none 0 0), (.int .i64 0), (.int .i64 0), (.int .i64 0)])⟩,
              ⟨(some 44), none, .e (.call 32 [(.tmp 43)])⟩,
              ⟨(some 45), none, .q (.bld [(.int .i64 0), (.int .i64 0), (.int .i64 0), (.int .i64 0), (.slice none 0 0), (.slice none 0 0), (.int .i64 0), (.slice none 0 0), (.slice none 0 0), (.slice none 0 0), (.slice none 0 0), (.slice none 0 0), (.int .i64 0), (.int .i64 0), (.int .i64 0)] [(0, 1, (.tmp 32)), (1, 1, (.tmp 36)), (2, 1, (.tmp 40)), (3, 1, (.tmp 44))])⟩,
              ⟨none, none, .e (.st 15 (.tmp 6) (.tmp 45))⟩])))
      (.ops [⟨(some 6), none, .e (.alloc 27 [(.int .i64 0), (.int .i64 0), (.int .i64 0), (.int .i64 0), (.slice none 0 0), (.slice none 0 0), (.int .i64 0), (.slice none 0 0), (.slice none 0 0), (.slice none 0 0), (.slice none 0 0), (.slice none 0 0), (.int .i64 0), (.int .i64 0), (.int .i64 0)])⟩,
            ⟨(some 40), none, .e (.callq 32 [(.tmp 39)])⟩,
            ⟨(some 44), none, .e (.call 32 [(.tmp 43)])⟩,
            ⟨(some 45), none, .q (.bld [(.int .i64 0), (.int .i64 0), (.int .i64 0), (.int .i64 0), (.slice none 0 0), (.slice none 0 0), (.int .i64 0), (.slice none 0 0), (.slice none 0 0), (.slice none 0 0), (.slice none 0 0), (.slice none 0 0), (.int .i64 0), (.int .i64 0), (.int .i64 0)] [(0, 1, (.tmp 32)), (1, 1, (.tmp 36)), (2, 1, (.tmp 40)), (3, 1, (.tmp 44))])⟩,
            ⟨none, none, .e (.st 15 (.tmp 6) (.tmp 45))⟩])))
    (.ops [⟨(some 6), none, .e (.alloc 27 [(.int .i64 0), (.int .i64 0), (.int .i64 0), (.int .i64 0), (.slice none 0 0), (.slice none 0 0), (.int .i64 0), (.slice none 0 0), (.slice none 0 0), (.slice none 0 0), (.slice none 0 0), (.slice none 0 0), (.int .i64 0), (.int .i64 0), (.int .i64 0)])⟩,
          ⟨(some 36), none, .e (.callq 32 [(.tmp 35)])⟩,
          ⟨(some 40), none, .e (.callq 32 [(.tmp 39)])⟩,
          ⟨(some 44), none, .e (.call 32 [(.tmp 43)])⟩,
          ⟨(some 45), none, .q (.bld [(.int .i64 0), (.int .i64 0), (.int .i64 0), (.int .i64 0), (.slice none 0 0), (.slice none 0 0), (.int .i64 0), (.slice none 0 0), (.slice none 0 0), (.slice none 0 0), (.slice none 0 0), (.slice none 0 0), (.int .i64 0), (.int .i64 0), (.int .i64 0)] [(0, 1, (.tmp 32)), (1, 1, (.tmp 36)), (2, 1, (.tmp 40)), (3, 1, (.tmp 44))])⟩,
          ⟨none, none, .e (.st 15 (.tmp 6) (.tmp 45))⟩])))
  (.ops [⟨(some 6), none, .e (.alloc 27 [(.int .i64 0), (.int .i64 0), (.int .i64 0), (.int .i64 0), (.slice none 0 0), (.slice none 0 0), (.int .i64 0), (.slice none 0 0), (.slice none 0 0), (.slice none 0 0), (.slice none 0 0), (.slice none 0 0), (.int .i64 0), (.int .i64 0), (.int .i64 0)])⟩,
        ⟨(some 32), none, .e (.callq 32 [(.tmp 31)])⟩,
        ⟨(some 36), none, .e (.callq 32 [(.tmp 35)])⟩,
        ⟨(some 40), none, .e (.callq 32 [(.tmp 39)])⟩,
        ⟨(some 44), none, .e (.call 32 [(.tmp 43)])⟩,
        ⟨(some 45), none, .q (.bld [(.int .i64 0), (.int .i64 0), (.int .i64 0), (.int .i64 0), (.slice none 0 0), (.slice none 0 0), (.int .i64 0), (.slice none 0 0), (.slice none 0 0), (.slice none 0 0), (.slice none 0 0), (.slice none 0 0), (.int .i64 0), (.int .i64 0), (.int .i64 0)] [(0, 1, (.tmp 32)), (1, 1, (.tmp 36)), (2, 1, (.tmp 40)), (3, 1, (.tmp 44))])⟩,
        ⟨none, none, .e (.st 15 (.tmp 6) (.tmp 45))⟩])))
  c_Decode15_t)))), [(128, (2, (true, 15)))]⟩
theorem k_Decode15 : compF Tryz.prog 12 = some c_Decode15 := by kernel_rfl
set_option maxHeartbeats 32000000 in
theorem decode15_tail {W : World} (L : Laid W) (s : Str) (out : List Str) (k0 n1 n2 n3 : Int) (hol : out.length ≤ 1000000) (h4 : ¬ out.length < 4) (hV2 : decodeRV s = if rightM (assembleR out) = true ∧ msgT (assembleR out) = s then (assembleR out, 0) else (msg0, 2)) (hasm : assembleR out = withM ⟨k0, n1, n2, n3, [], [], pol0⟩ (out.drop 4)) (hsm2 : k0 = 3 → (out.drop 4).length = 1 → ((out.drop 4).getD 0 ByteArray.empty).size ≤ 19000) {r b : Nat} (nbr : b ≠ r)
    (tm : List (Nat × AVal)) (tm0 : tget tm 0 = .v (.string s)) (tm2 : tget tm 2 = .v (.pointer (some ⟨r, 0, none⟩))) (tm4 : tget tm 4 = .sl false 1 (strRows out)) (tm6 : tget tm 6 = .v (.pointer (some ⟨b, 0, none⟩))) :
    stk Tryz.prog W [.code c_Decode15_t] (aretC [(128, 2, true, 15)] [128, 3] fun v _ => v = decodeA (decodeRV s)) .normal ⟨tm, (AHeap.none.put r (.cells TM zero15)).put b (.cells TM [.v (.int .i64 k0), .v (.int .i64 n1), .v (.int .i64 n2), .v (.int .i64 n3), nilS, nilS, .v (.int .i64 0), nilS, nilS, nilS, nilS, nilS, .v (.int .i64 0), .v (.int .i64 0), .v (.int .i64 0)])⟩ := by
  have nrb : r ≠ b := nbr.symm
  have b4 : (4 : Int) ≤ (out.length : Int) := by omega
  have t4 : (4 : Int).toNat = 4 := rfl
  have t1 : (1 : Int).toNat = 1 := rfl
  have t2 : (2 : Int).toNat = 2 := rfl
  simp only [c_Decode15_t]
  have hdl : (out.drop 4).length = out.length - 4 := List.length_drop
  have hll : (out.drop 4).length ≤ 1000000 := by omega
  generalize hl : out.drop 4 = l at hasm hsm2 hdl hll
  by_cases k3 : k0 = 3
  · have e3 : decide (k0 = 3) = true := decide_eq_true k3
    have e1 : decide (k0 = 1) = false := decide_eq_false (by omega)
    have e2 : decide (k0 = 2) = false := decide_eq_false (by omega)
    by_cases l1 : l.length = 1
    · have f1 : decide ((l.length : Int) = 1) = true := decide_eq_true (by omega)
      have j0 : 0 < l.length := by omega
      have j1 : (0 : Int) < (l.length : Int) := by omega
      have u0 := strRows_get j0
      (try simp +decide (implicitDefEqProofs := false) only [go_sem, ↓stk_g, ↓stk_c, ↓reduceIte, tm0, tm2, tm4, tm6, hp_self, hp_hp, hp_ne, nrb, nbr, ne_eq, not_false_eq_true, t4, b4, hl, Int.le_refl, e3, f1, j0, j1, u0])
      refine stk_pure (rread_ok (l.getD 0 ByteArray.empty) (hsm2 k3 l1)) fun v hv => ?_
      obtain ⟨ee, hre⟩ := readR_pol (l.getD 0 ByteArray.empty)
      rw [rreadR_eq, hre] at hv
      subst hv
      have hpf := readPol_fits (l.getD 0 ByteArray.empty)
      replace hasm : assembleR out = (Msg.mk k0 n1 n2 n3 [] [] (readPol (l.getD 0 ByteArray.empty))) := by rw [hasm]; unfold withM; dsimp only; rw [if_pos ⟨k3, l1⟩]
      generalize readPol (l.getD 0 ByteArray.empty) = p1 at hpf hasm
      (try simp +decide (implicitDefEqProofs := false) only [go_sem, ↓stk_g, ↓stk_c, ↓reduceIte, polCells])
      rw [stk_alloc]
      intro b8 h8
      have n8b := new_ne (hp_self _ _ _) h8
      have n8b' := n8b.symm
      have n8r := new_ne ((hp_ne _ _ nrb).trans (hp_self _ _ _)) h8
      have n8r' := n8r.symm
      have hr9 := fun (x y : AObj) => (hp_ne ((((AHeap.none.put r (.cells TM zero15)).put b (.cells TM [.v (.int .i64 k0), .v (.int .i64 n1), .v (.int .i64 n2), .v (.int .i64 n3), nilS, nilS, .v (.int .i64 0), nilS, nilS, nilS, nilS, nilS, .v (.int .i64 0), .v (.int .i64 0), .v (.int .i64 0)])).put b8 x)) y nrb).trans ((hp_ne _ x n8r').trans ((hp_ne _ _ nrb).trans (hp_self AHeap.none r (.cells TM zero15))))
      have hhere := fun (x y : AObj) => hp_self ((((AHeap.none.put r (.cells TM zero15)).put b (.cells TM [.v (.int .i64 k0), .v (.int .i64 n1), .v (.int .i64 n2), .v (.int .i64 n3), nilS, nilS, .v (.int .i64 0), nilS, nilS, nilS, nilS, nilS, .v (.int .i64 0), .v (.int .i64 0), .v (.int .i64 0)])).put b8 x)) b y
      (try simp +decide (implicitDefEqProofs := false) only [go_sem, ↓stk_g, ↓stk_c, ↓reduceIte, tm0, tm2, tm4, tm6, hp_self, hp_hp, hp_ne, n8b, n8b', n8r, n8r', nrb, nbr, ne_eq, not_false_eq_true, e1, e2, e3, polCells])
      refine stk_up (α := Unit) 0 (fun _ _ => ⟨[(6, .v (.pointer (some ⟨b, 0, none⟩))), (2, .v (.pointer (some ⟨r, 0, none⟩))), (0, .v (.string s))], (AHeap.none.put r (.cells TM zero15)).put b (.cells TM (msgX (Msg.mk k0 n1 n2 n3 [] [] p1) nilS nilS (.sl false 1 (strRows p1.elems)) (.sl false 1 (strRows p1.attrs)) (.sl false 1 (strRows p1.schemes)) (.sl false 1 (strRows p1.classes)) (.sl false 1 (strRows p1.props))))⟩) (fun _ _ => True) () (Weak.list _ (sub_two (hr9 _ _) (hhere _ _)) ?_) trivial ?_
      · (try simp +decide (implicitDefEqProofs := false) only [go_sem, ↓stk_g, ↓stk_c, ↓reduceIte, tm0, tm2, tm6])
        first | done | exact FZ.refl _
      rintro i ⟨⟩ hi -
      clear hr9 hhere
      (try simp +decide (implicitDefEqProofs := false) only [go_sem, ↓stk_g, ↓stk_c, ↓reduceIte, hp_self, e2, M.msgX])
      have hr9 := (hp_ne (AHeap.none.put r (.cells TM zero15)) (.cells TM (msgX (Msg.mk k0 n1 n2 n3 [] [] p1) nilS nilS (.sl false 1 (strRows p1.elems)) (.sl false 1 (strRows p1.attrs)) (.sl false 1 (strRows p1.schemes)) (.sl false 1 (strRows p1.classes)) (.sl false 1 (strRows p1.props)))) nrb).trans (hp_self _ _ _)
      have hhere := hp_self (AHeap.none.put r (.cells TM zero15)) b (.cells TM (msgX (Msg.mk k0 n1 n2 n3 [] [] p1) nilS nilS (.sl false 1 (strRows p1.elems)) (.sl false 1 (strRows p1.attrs)) (.sl false 1 (strRows p1.schemes)) (.sl false 1 (strRows p1.classes)) (.sl false 1 (strRows p1.props))))
      have hfit : MFits (Msg.mk k0 n1 n2 n3 [] [] p1) := ⟨Nat.zero_le _, Nat.zero_le _, hpf⟩
      refine stk_pureW ⟨[(115, .agg (msgCells (Msg.mk k0 n1 n2 n3 [] [] p1))), (6, .pl (msgCells (Msg.mk k0 n1 n2 n3 [] [] p1))), (2, .v (.pointer (some ⟨r, 0, none⟩))), (0, .v (.string s))], AHeap.none.put r (.cells TM zero15)⟩ (Weak.list _ (sub_one hr9) ?_) (encode15_ok L (Msg.mk k0 n1 n2 n3 [] [] p1) hfit) fun v hv => ?_
      · (try simp +decide (implicitDefEqProofs := false) only [go_sem, ↓stk_g, ↓stk_c, ↓reduceIte])
        exact ⟨.agg rfl (msgCells_one _) (FZ.msgX (m := (Msg.mk k0 n1 n2 n3 [] [] p1)) (.nil 1) (.nil 2) (.refl _) (.refl _) (.refl _) (.refl _) (.refl _)), .cells hhere (one_none nbr) rfl (FZ.msgX (m := (Msg.mk k0 n1 n2 n3 [] [] p1)) (.nil 1) (.nil 2) (.refl _) (.refl _) (.refl _) (.refl _) (.refl _))⟩
      subst hv
      clear hhere hr9
      rw [hasm] at hV2
      unfold encR
      cases hrt : rightM (Msg.mk k0 n1 n2 n3 [] [] p1)
      · rw [if_neg (fun h => by rw [hrt] at h; exact absurd h.1 (by simp))] at hV2
        (try simp +decide (implicitDefEqProofs := false) only [go_sem, ↓stk_g, ↓stk_c, ↓reduceIte])
        refine aretC_one (by (try simp +decide (implicitDefEqProofs := false) only [go_sem, ↓stk_g, ↓stk_c, ↓reduceIte, hp_self])) ?_
        (try simp +decide (implicitDefEqProofs := false) only [go_sem, ↓stk_g, ↓stk_c, ↓reduceIte, hp_self])
        exact ⟨.inr rfl, AHeap.none, _, Sub.none _, .tup2 .zeroM (.refl _), by rw [hV2]; rfl⟩
      by_cases hte : msgT (Msg.mk k0 n1 n2 n3 [] [] p1) = s
      · have h1 : decide (msgT (Msg.mk k0 n1 n2 n3 [] [] p1) ≠ s) = false := decide_eq_false (fun h => h hte)
        rw [if_pos ⟨hrt, hte⟩] at hV2
        (try simp +decide (implicitDefEqProofs := false) only [go_sem, ↓stk_g, ↓stk_c, ↓reduceIte, h1, msgCells])
        refine aretC_one (by (try simp +decide (implicitDefEqProofs := false) only [go_sem, ↓stk_g, ↓stk_c, ↓reduceIte, hp_self])) ?_
        (try simp +decide (implicitDefEqProofs := false) only [go_sem, ↓stk_g, ↓stk_c, ↓reduceIte, hp_self])
        exact ⟨.inr rfl, AHeap.none, _, Sub.none _, .refl _, by rw [hV2]; rfl⟩
      · have h1 : decide (msgT (Msg.mk k0 n1 n2 n3 [] [] p1) ≠ s) = true := decide_eq_true hte
        rw [if_neg (fun h => hte h.2)] at hV2
        (try simp +decide (implicitDefEqProofs := false) only [go_sem, ↓stk_g, ↓stk_c, ↓reduceIte, h1, msgCells])
        refine aretC_one (by (try simp +decide (implicitDefEqProofs := false) only [go_sem, ↓stk_g, ↓stk_c, ↓reduceIte, hp_self])) ?_
        (try simp +decide (implicitDefEqProofs := false) only [go_sem, ↓stk_g, ↓stk_c, ↓reduceIte, hp_self])
        exact ⟨.inr rfl, AHeap.none, _, Sub.none _, .tup2 .zeroM (.refl _), by rw [hV2]; rfl⟩
    · have f1 : decide ((l.length : Int) = 1) = false := decide_eq_false (by omega)
      replace hasm : assembleR out = (Msg.mk k0 n1 n2 n3 [] [] pol0) := by rw [hasm]; unfold withM; dsimp only; rw [if_neg (fun h => l1 h.2), if_neg (fun h => by omega), if_neg (fun h => by omega)]
      have hr9 : ((AHeap.none.put r (.cells TM zero15)).put b (.cells TM [.v (.int .i64 k0), .v (.int .i64 n1), .v (.int .i64 n2), .v (.int .i64 n3), nilS, nilS, .v (.int .i64 0), nilS, nilS, nilS, nilS, nilS, .v (.int .i64 0), .v (.int .i64 0), .v (.int .i64 0)])) r = some (.cells TM zero15) := (hp_ne _ _ nrb).trans (hp_self _ _ _)
      have hhere : ((AHeap.none.put r (.cells TM zero15)).put b (.cells TM [.v (.int .i64 k0), .v (.int .i64 n1), .v (.int .i64 n2), .v (.int .i64 n3), nilS, nilS, .v (.int .i64 0), nilS, nilS, nilS, nilS, nilS, .v (.int .i64 0), .v (.int .i64 0), .v (.int .i64 0)])) b = some (.cells TM [.v (.int .i64 k0), .v (.int .i64 n1), .v (.int .i64 n2), .v (.int .i64 n3), nilS, nilS, .v (.int .i64 0), nilS, nilS, nilS, nilS, nilS, .v (.int .i64 0), .v (.int .i64 0), .v (.int .i64 0)]) := hp_self _ _ _
      (try simp +decide (implicitDefEqProofs := false) only [go_sem, ↓stk_g, ↓stk_c, ↓reduceIte, tm0, tm2, tm4, tm6, hp_self, hp_hp, hp_ne, nrb, nbr, ne_eq, not_false_eq_true, t4, b4, hl, Int.le_refl, e1, e2, e3, f1])
      generalize ((AHeap.none.put r (.cells TM zero15)).put b (.cells TM [.v (.int .i64 k0), .v (.int .i64 n1), .v (.int .i64 n2), .v (.int .i64 n3), nilS, nilS, .v (.int .i64 0), nilS, nilS, nilS, nilS, nilS, .v (.int .i64 0), .v (.int .i64 0), .v (.int .i64 0)])) = HH at hr9 hhere ⊢
      refine stk_up (α := Unit) 0 (fun _ _ => ⟨[(6, .v (.pointer (some ⟨b, 0, none⟩))), (2, .v (.pointer (some ⟨r, 0, none⟩))), (0, .v (.string s))], HH⟩) (fun _ _ => True) () (Weak.list _ (Sub.refl _) ?_) trivial ?_
      · (try simp +decide (implicitDefEqProofs := false) only [go_sem, ↓stk_g, ↓stk_c, ↓reduceIte, tm0, tm2, tm6])
        first | done | exact FZ.refl _
      rintro i ⟨⟩ hi -
      (try simp +decide (implicitDefEqProofs := false) only [go_sem, ↓stk_g, ↓stk_c, ↓reduceIte, hhere, e2])
      have hfit : MFits (Msg.mk k0 n1 n2 n3 [] [] pol0) := ⟨Nat.zero_le _, Nat.zero_le _, ((pol0_small 0 0).fits (by omega) (by omega))⟩
      refine stk_pureW ⟨[(115, .agg (msgCells (Msg.mk k0 n1 n2 n3 [] [] pol0))), (6, .pl (msgCells (Msg.mk k0 n1 n2 n3 [] [] pol0))), (2, .v (.pointer (some ⟨r, 0, none⟩))), (0, .v (.string s))], AHeap.none.put r (.cells TM zero15)⟩ (Weak.list _ (sub_one hr9) ?_) (encode15_ok L (Msg.mk k0 n1 n2 n3 [] [] pol0) hfit) fun v hv => ?_
      · (try simp +decide (implicitDefEqProofs := false) only [go_sem, ↓stk_g, ↓stk_c, ↓reduceIte])
        exact ⟨.agg rfl (msgCells_one _) (FZ.msgX (m := (Msg.mk k0 n1 n2 n3 [] [] pol0)) (.nil 1) (.nil 2) (.nil 1) (.nil 1) (.nil 1) (.nil 1) (.nil 1)), .cells hhere (one_none nbr) rfl (FZ.msgX (m := (Msg.mk k0 n1 n2 n3 [] [] pol0)) (.nil 1) (.nil 2) (.nil 1) (.nil 1) (.nil 1) (.nil 1) (.nil 1))⟩
      subst hv
      clear hhere hr9
      rw [hasm] at hV2
      unfold encR
      cases hrt : rightM (Msg.mk k0 n1 n2 n3 [] [] pol0)
      · rw [if_neg (fun h => by rw [hrt] at h; exact absurd h.1 (by simp))] at hV2
        (try simp +decide (implicitDefEqProofs := false) only [go_sem, ↓stk_g, ↓stk_c, ↓reduceIte])
        refine aretC_one (by (try simp +decide (implicitDefEqProofs := false) only [go_sem, ↓stk_g, ↓stk_c, ↓reduceIte, hp_self])) ?_
        (try simp +decide (implicitDefEqProofs := false) only [go_sem, ↓stk_g, ↓stk_c, ↓reduceIte, hp_self])
        exact ⟨.inr rfl, AHeap.none, _, Sub.none _, .tup2 .zeroM (.refl _), by rw [hV2]; rfl⟩
      by_cases hte : msgT (Msg.mk k0 n1 n2 n3 [] [] pol0) = s
      · have h1 : decide (msgT (Msg.mk k0 n1 n2 n3 [] [] pol0) ≠ s) = false := decide_eq_false (fun h => h hte)
        rw [if_pos ⟨hrt, hte⟩] at hV2
        (try simp +decide (implicitDefEqProofs := false) only [go_sem, ↓stk_g, ↓stk_c, ↓reduceIte, h1, msgCells])
        refine aretC_one (by (try simp +decide (implicitDefEqProofs := false) only [go_sem, ↓stk_g, ↓stk_c, ↓reduceIte, hp_self])) ?_
        (try simp +decide (implicitDefEqProofs := false) only [go_sem, ↓stk_g, ↓stk_c, ↓reduceIte, hp_self])
        exact ⟨.inr rfl, AHeap.none, _, Sub.none _, .refl _, by rw [hV2]; rfl⟩
      · have h1 : decide (msgT (Msg.mk k0 n1 n2 n3 [] [] pol0) ≠ s) = true := decide_eq_true hte
        rw [if_neg (fun h => hte h.2)] at hV2
        (try simp +decide (implicitDefEqProofs := false) only [go_sem, ↓stk_g, ↓stk_c, ↓reduceIte, h1, msgCells])
        refine aretC_one (by (try simp +decide (implicitDefEqProofs := false) only [go_sem, ↓stk_g, ↓stk_c, ↓reduceIte, hp_self])) ?_
        (try simp +decide (implicitDefEqProofs := false) only [go_sem, ↓stk_g, ↓stk_c, ↓reduceIte, hp_self])
        exact ⟨.inr rfl, AHeap.none, _, Sub.none _, .tup2 .zeroM (.refl _), by rw [hV2]; rfl⟩
  have e3 : decide (k0 = 3) = false := decide_eq_false k3
  by_cases k1 : k0 = 1
  · have e1 : decide (k0 = 1) = true := decide_eq_true k1
    have e2 : decide (k0 = 2) = false := decide_eq_false (by omega)
    by_cases l1 : 0 < l.length
    · have f1 : decide ((0 : Int) < (l.length : Int)) = true := decide_eq_true (by omega)
      have f2 : (1 : Int) ≤ (l.length : Int) := by omega
      replace hasm : assembleR out = (Msg.mk k0 n1 n2 n3 (l.drop 1) [] pol0) := by rw [hasm]; unfold withM; dsimp only; rw [if_neg (fun h => k3 h.1), if_pos ⟨k1, l1⟩]
      have hidl : (l.drop 1).length ≤ 1000000 := by rw [List.length_drop]; omega
      have hr9 : ((AHeap.none.put r (.cells TM zero15)).put b (.cells TM [.v (.int .i64 k0), .v (.int .i64 n1), .v (.int .i64 n2), .v (.int .i64 n3), nilS, nilS, .v (.int .i64 0), nilS, nilS, nilS, nilS, nilS, .v (.int .i64 0), .v (.int .i64 0), .v (.int .i64 0)])) r = some (.cells TM zero15) := (hp_ne _ _ nrb).trans (hp_self _ _ _)
      have hhere : ((AHeap.none.put r (.cells TM zero15)).put b (.cells TM [.v (.int .i64 k0), .v (.int .i64 n1), .v (.int .i64 n2), .v (.int .i64 n3), nilS, nilS, .v (.int .i64 0), nilS, nilS, nilS, nilS, nilS, .v (.int .i64 0), .v (.int .i64 0), .v (.int .i64 0)])) b = some (.cells TM [.v (.int .i64 k0), .v (.int .i64 n1), .v (.int .i64 n2), .v (.int .i64 n3), nilS, nilS, .v (.int .i64 0), nilS, nilS, nilS, nilS, nilS, .v (.int .i64 0), .v (.int .i64 0), .v (.int .i64 0)]) := hp_self _ _ _
      (try simp +decide (implicitDefEqProofs := false) only [go_sem, ↓stk_g, ↓stk_c, ↓reduceIte, tm0, tm2, tm4, tm6, hp_self, hp_hp, hp_ne, nrb, nbr, ne_eq, not_false_eq_true, t4, b4, hl, Int.le_refl, e1, e2, e3, f1, f2, t1])
      refine stk_app (rows := []) (new := strRows (l.drop 1)) (.sl []) (by rfl) (by simp only [List.length_nil, strRows_len, List.length_drop]; omega) fun x1 H1 hr1 hrest => ?_
      rw [List.nil_append] at hr1
      have hb1 := hrest b _ hhere (fun e => by cases e)
      have hr1' := hrest r _ hr9 (fun e => by cases e)
      clear hr9 hhere hrest
      have hrow2 := hr1.put2 (o := .cells TM [.v (.int .i64 k0), .v (.int .i64 n1), .v (.int .i64 n2), .v (.int .i64 n3), x1, nilS, .v (.int .i64 0), nilS, nilS, nilS, nilS, nilS, .v (.int .i64 0), .v (.int .i64 0), .v (.int .i64 0)]) hb1
      have hr9 : (H1.put b (.cells TM [.v (.int .i64 k0), .v (.int .i64 n1), .v (.int .i64 n2), .v (.int .i64 n3), x1, nilS, .v (.int .i64 0), nilS, nilS, nilS, nilS, nilS, .v (.int .i64 0), .v (.int .i64 0), .v (.int .i64 0)])) r = some (.cells TM zero15) := (hp_ne _ _ nrb).trans hr1'
      have hhere : (H1.put b (.cells TM [.v (.int .i64 k0), .v (.int .i64 n1), .v (.int .i64 n2), .v (.int .i64 n3), x1, nilS, .v (.int .i64 0), nilS, nilS, nilS, nilS, nilS, .v (.int .i64 0), .v (.int .i64 0), .v (.int .i64 0)])) b = some (.cells TM [.v (.int .i64 k0), .v (.int .i64 n1), .v (.int .i64 n2), .v (.int .i64 n3), x1, nilS, .v (.int .i64 0), nilS, nilS, nilS, nilS, nilS, .v (.int .i64 0), .v (.int .i64 0), .v (.int .i64 0)]) := hp_self _ _ _
      obtain rfl | ⟨ff, rr, rfl⟩ | ⟨gg, nn, rfl⟩ := hr1.shape
      all_goals (
        (try simp +decide (implicitDefEqProofs := false) only [go_sem, ↓stk_g, ↓stk_c, ↓reduceIte, tm0, tm2, tm6, hb1, hp_self, e2])
        generalize AHeap.put H1 b _ = HH at hr9 hhere hrow2 ⊢
        refine stk_up (α := Unit) 0 (fun _ _ => ⟨[(6, .v (.pointer (some ⟨b, 0, none⟩))), (2, .v (.pointer (some ⟨r, 0, none⟩))), (0, .v (.string s))], HH⟩) (fun _ _ => True) () (Weak.list _ (Sub.refl _) ?_) trivial ?_
        · (try simp +decide (implicitDefEqProofs := false) only [go_sem, ↓stk_g, ↓stk_c, ↓reduceIte, tm0, tm2, tm6])
          first | done | exact FZ.refl _
        rintro i ⟨⟩ hi -
        (try simp +decide (implicitDefEqProofs := false) only [go_sem, ↓stk_g, ↓stk_c, ↓reduceIte, hhere, e2])
        have hfit : MFits (Msg.mk k0 n1 n2 n3 (l.drop 1) [] pol0) := ⟨hidl, Nat.zero_le _, ((pol0_small 0 0).fits (by omega) (by omega))⟩
        refine stk_pureW ⟨[(115, .agg (msgCells (Msg.mk k0 n1 n2 n3 (l.drop 1) [] pol0))), (6, .pl (msgCells (Msg.mk k0 n1 n2 n3 (l.drop 1) [] pol0))), (2, .v (.pointer (some ⟨r, 0, none⟩))), (0, .v (.string s))], AHeap.none.put r (.cells TM zero15)⟩ (Weak.list _ (sub_one hr9) ?_) (encode15_ok L (Msg.mk k0 n1 n2 n3 (l.drop 1) [] pol0) hfit) fun v hv => ?_
        · (try simp +decide (implicitDefEqProofs := false) only [go_sem, ↓stk_g, ↓stk_c, ↓reduceIte])
          exact ⟨.agg rfl (msgCells_one _) (FZ.msgX (m := (Msg.mk k0 n1 n2 n3 (l.drop 1) [] pol0)) (hrow2.fz (strGood _) (hrow2.gone2 hr9)) (.nil 2) (.nil 1) (.nil 1) (.nil 1) (.nil 1) (.nil 1)), .cells hhere (one_none nbr) rfl (FZ.msgX (m := (Msg.mk k0 n1 n2 n3 (l.drop 1) [] pol0)) (hrow2.fz (strGood _) (hrow2.gone2 hr9)) (.nil 2) (.nil 1) (.nil 1) (.nil 1) (.nil 1) (.nil 1))⟩
        subst hv
        clear hhere hr9
        rw [hasm] at hV2
        unfold encR
        cases hrt : rightM (Msg.mk k0 n1 n2 n3 (l.drop 1) [] pol0)
        · rw [if_neg (fun h => by rw [hrt] at h; exact absurd h.1 (by simp))] at hV2
          (try simp +decide (implicitDefEqProofs := false) only [go_sem, ↓stk_g, ↓stk_c, ↓reduceIte])
          refine aretC_one (by (try simp +decide (implicitDefEqProofs := false) only [go_sem, ↓stk_g, ↓stk_c, ↓reduceIte, hp_self])) ?_
          (try simp +decide (implicitDefEqProofs := false) only [go_sem, ↓stk_g, ↓stk_c, ↓reduceIte, hp_self])
          exact ⟨.inr rfl, AHeap.none, _, Sub.none _, .tup2 .zeroM (.refl _), by rw [hV2]; rfl⟩
        by_cases hte : msgT (Msg.mk k0 n1 n2 n3 (l.drop 1) [] pol0) = s
        · have h1 : decide (msgT (Msg.mk k0 n1 n2 n3 (l.drop 1) [] pol0) ≠ s) = false := decide_eq_false (fun h => h hte)
          rw [if_pos ⟨hrt, hte⟩] at hV2
          (try simp +decide (implicitDefEqProofs := false) only [go_sem, ↓stk_g, ↓stk_c, ↓reduceIte, h1, msgCells])
          refine aretC_one (by (try simp +decide (implicitDefEqProofs := false) only [go_sem, ↓stk_g, ↓stk_c, ↓reduceIte, hp_self])) ?_
          (try simp +decide (implicitDefEqProofs := false) only [go_sem, ↓stk_g, ↓stk_c, ↓reduceIte, hp_self])
          exact ⟨.inr rfl, AHeap.none, _, Sub.none _, .refl _, by rw [hV2]; rfl⟩
        · have h1 : decide (msgT (Msg.mk k0 n1 n2 n3 (l.drop 1) [] pol0) ≠ s) = true := decide_eq_true hte
          rw [if_neg (fun h => hte h.2)] at hV2
          (try simp +decide (implicitDefEqProofs := false) only [go_sem, ↓stk_g, ↓stk_c, ↓reduceIte, h1, msgCells])
          refine aretC_one (by (try simp +decide (implicitDefEqProofs := false) only [go_sem, ↓stk_g, ↓stk_c, ↓reduceIte, hp_self])) ?_
          (try simp +decide (implicitDefEqProofs := false) only [go_sem, ↓stk_g, ↓stk_c, ↓reduceIte, hp_self])
          exact ⟨.inr rfl, AHeap.none, _, Sub.none _, .tup2 .zeroM (.refl _), by rw [hV2]; rfl⟩)
    · have f1 : decide ((0 : Int) < (l.length : Int)) = false := decide_eq_false (by omega)
      have hl0 : l = [] := List.length_eq_zero_iff.1 (by omega)
      replace hasm : assembleR out = (Msg.mk k0 n1 n2 n3 l [] pol0) := by rw [hasm]; unfold withM; dsimp only; rw [if_neg (fun h => k3 h.1), if_neg (fun h => l1 h.2), if_neg (fun h => by omega), hl0]
      have hidl : l.length ≤ 1000000 := hll
      have hr9 : ((AHeap.none.put r (.cells TM zero15)).put b (.cells TM [.v (.int .i64 k0), .v (.int .i64 n1), .v (.int .i64 n2), .v (.int .i64 n3), nilS, nilS, .v (.int .i64 0), nilS, nilS, nilS, nilS, nilS, .v (.int .i64 0), .v (.int .i64 0), .v (.int .i64 0)])) r = some (.cells TM zero15) := (hp_ne _ _ nrb).trans (hp_self _ _ _)
      have hhere : ((AHeap.none.put r (.cells TM zero15)).put b (.cells TM [.v (.int .i64 k0), .v (.int .i64 n1), .v (.int .i64 n2), .v (.int .i64 n3), nilS, nilS, .v (.int .i64 0), nilS, nilS, nilS, nilS, nilS, .v (.int .i64 0), .v (.int .i64 0), .v (.int .i64 0)])) b = some (.cells TM [.v (.int .i64 k0), .v (.int .i64 n1), .v (.int .i64 n2), .v (.int .i64 n3), nilS, nilS, .v (.int .i64 0), nilS, nilS, nilS, nilS, nilS, .v (.int .i64 0), .v (.int .i64 0), .v (.int .i64 0)]) := hp_self _ _ _
      (try simp +decide (implicitDefEqProofs := false) only [go_sem, ↓stk_g, ↓stk_c, ↓reduceIte, tm0, tm2, tm4, tm6, hp_self, hp_hp, hp_ne, nrb, nbr, ne_eq, not_false_eq_true, t4, b4, hl, Int.le_refl, e1, e2, e3, f1])
      refine stk_app (rows := []) (new := strRows l) (.sl []) (by rfl) (by simp only [List.length_nil, strRows_len, List.length_drop]; omega) fun x1 H1 hr1 hrest => ?_
      rw [List.nil_append] at hr1
      have hb1 := hrest b _ hhere (fun e => by cases e)
      have hr1' := hrest r _ hr9 (fun e => by cases e)
      clear hr9 hhere hrest
      have hrow2 := hr1.put2 (o := .cells TM [.v (.int .i64 k0), .v (.int .i64 n1), .v (.int .i64 n2), .v (.int .i64 n3), x1, nilS, .v (.int .i64 0), nilS, nilS, nilS, nilS, nilS, .v (.int .i64 0), .v (.int .i64 0), .v (.int .i64 0)]) hb1
      have hr9 : (H1.put b (.cells TM [.v (.int .i64 k0), .v (.int .i64 n1), .v (.int .i64 n2), .v (.int .i64 n3), x1, nilS, .v (.int .i64 0), nilS, nilS, nilS, nilS, nilS, .v (.int .i64 0), .v (.int .i64 0), .v (.int .i64 0)])) r = some (.cells TM zero15) := (hp_ne _ _ nrb).trans hr1'
      have hhere : (H1.put b (.cells TM [.v (.int .i64 k0), .v (.int .i64 n1), .v (.int .i64 n2), .v (.int .i64 n3), x1, nilS, .v (.int .i64 0), nilS, nilS, nilS, nilS, nilS, .v (.int .i64 0), .v (.int .i64 0), .v (.int .i64 0)])) b = some (.cells TM [.v (.int .i64 k0), .v (.int .i64 n1), .v (.int .i64 n2), .v (.int .i64 n3), x1, nilS, .v (.int .i64 0), nilS, nilS, nilS, nilS, nilS, .v (.int .i64 0), .v (.int .i64 0), .v (.int .i64 0)]) := hp_self _ _ _
      obtain rfl | ⟨ff, rr, rfl⟩ | ⟨gg, nn, rfl⟩ := hr1.shape
      all_goals (
        (try simp +decide (implicitDefEqProofs := false) only [go_sem, ↓stk_g, ↓stk_c, ↓reduceIte, tm0, tm2, tm6, hb1, hp_self, e2])
        generalize AHeap.put H1 b _ = HH at hr9 hhere hrow2 ⊢
        refine stk_up (α := Unit) 0 (fun _ _ => ⟨[(6, .v (.pointer (some ⟨b, 0, none⟩))), (2, .v (.pointer (some ⟨r, 0, none⟩))), (0, .v (.string s))], HH⟩) (fun _ _ => True) () (Weak.list _ (Sub.refl _) ?_) trivial ?_
        · (try simp +decide (implicitDefEqProofs := false) only [go_sem, ↓stk_g, ↓stk_c, ↓reduceIte, tm0, tm2, tm6])
          first | done | exact FZ.refl _
        rintro i ⟨⟩ hi -
        (try simp +decide (implicitDefEqProofs := false) only [go_sem, ↓stk_g, ↓stk_c, ↓reduceIte, hhere, e2])
        have hfit : MFits (Msg.mk k0 n1 n2 n3 l [] pol0) := ⟨hidl, Nat.zero_le _, ((pol0_small 0 0).fits (by omega) (by omega))⟩
        refine stk_pureW ⟨[(115, .agg (msgCells (Msg.mk k0 n1 n2 n3 l [] pol0))), (6, .pl (msgCells (Msg.mk k0 n1 n2 n3 l [] pol0))), (2, .v (.pointer (some ⟨r, 0, none⟩))), (0, .v (.string s))], AHeap.none.put r (.cells TM zero15)⟩ (Weak.list _ (sub_one hr9) ?_) (encode15_ok L (Msg.mk k0 n1 n2 n3 l [] pol0) hfit) fun v hv => ?_
        · (try simp +decide (implicitDefEqProofs := false) only [go_sem, ↓stk_g, ↓stk_c, ↓reduceIte])
          exact ⟨.agg rfl (msgCells_one _) (FZ.msgX (m := (Msg.mk k0 n1 n2 n3 l [] pol0)) (hrow2.fz (strGood _) (hrow2.gone2 hr9)) (.nil 2) (.nil 1) (.nil 1) (.nil 1) (.nil 1) (.nil 1)), .cells hhere (one_none nbr) rfl (FZ.msgX (m := (Msg.mk k0 n1 n2 n3 l [] pol0)) (hrow2.fz (strGood _) (hrow2.gone2 hr9)) (.nil 2) (.nil 1) (.nil 1) (.nil 1) (.nil 1) (.nil 1))⟩
        subst hv
        clear hhere hr9
        rw [hasm] at hV2
        unfold encR
        cases hrt : rightM (Msg.mk k0 n1 n2 n3 l [] pol0)
        · rw [if_neg (fun h => by rw [hrt] at h; exact absurd h.1 (by simp))] at hV2
          (try simp +decide (implicitDefEqProofs := false) only [go_sem, ↓stk_g, ↓stk_c, ↓reduceIte])
          refine aretC_one (by (try simp +decide (implicitDefEqProofs := false) only [go_sem, ↓stk_g, ↓stk_c, ↓reduceIte, hp_self])) ?_
          (try simp +decide (implicitDefEqProofs := false) only [go_sem, ↓stk_g, ↓stk_c, ↓reduceIte, hp_self])
          exact ⟨.inr rfl, AHeap.none, _, Sub.none _, .tup2 .zeroM (.refl _), by rw [hV2]; rfl⟩
        by_cases hte : msgT (Msg.mk k0 n1 n2 n3 l [] pol0) = s
        · have h1 : decide (msgT (Msg.mk k0 n1 n2 n3 l [] pol0) ≠ s) = false := decide_eq_false (fun h => h hte)
          rw [if_pos ⟨hrt, hte⟩] at hV2
          (try simp +decide (implicitDefEqProofs := false) only [go_sem, ↓stk_g, ↓stk_c, ↓reduceIte, h1, msgCells])
          refine aretC_one (by (try simp +decide (implicitDefEqProofs := false) only [go_sem, ↓stk_g, ↓stk_c, ↓reduceIte, hp_self])) ?_
          (try simp +decide (implicitDefEqProofs := false) only [go_sem, ↓stk_g, ↓stk_c, ↓reduceIte, hp_self])
          exact ⟨.inr rfl, AHeap.none, _, Sub.none _, .refl _, by rw [hV2]; rfl⟩
        · have h1 : decide (msgT (Msg.mk k0 n1 n2 n3 l [] pol0) ≠ s) = true := decide_eq_true hte
          rw [if_neg (fun h => hte h.2)] at hV2
          (try simp +decide (implicitDefEqProofs := false) only [go_sem, ↓stk_g, ↓stk_c, ↓reduceIte, h1, msgCells])
          refine aretC_one (by (try simp +decide (implicitDefEqProofs := false) only [go_sem, ↓stk_g, ↓stk_c, ↓reduceIte, hp_self])) ?_
          (try simp +decide (implicitDefEqProofs := false) only [go_sem, ↓stk_g, ↓stk_c, ↓reduceIte, hp_self])
          exact ⟨.inr rfl, AHeap.none, _, Sub.none _, .tup2 .zeroM (.refl _), by rw [hV2]; rfl⟩)
  have e1 : decide (k0 = 1) = false := decide_eq_false k1
  by_cases k2 : k0 = 2
  · have e2 : decide (k0 = 2) = true := decide_eq_true k2
    by_cases l1 : 0 < l.length
    · have f1 : decide ((0 : Int) < (l.length : Int)) = true := decide_eq_true (by omega)
      have f2 : (1 : Int) ≤ (l.length : Int) := by omega
      have hl1l : (l.drop 1).length ≤ 1000000 := by rw [List.length_drop]; omega
      replace hasm : assembleR out = (Msg.mk k0 n1 n2 n3 [] (pairsP (l.drop 1)) pol0) := by rw [hasm]; unfold withM; dsimp only; rw [if_neg (fun h => k3 h.1), if_neg (fun h => k1 h.1), if_pos ⟨k2, l1⟩]
      have hr9 : ((AHeap.none.put r (.cells TM zero15)).put b (.cells TM [.v (.int .i64 k0), .v (.int .i64 n1), .v (.int .i64 n2), .v (.int .i64 n3), nilS, nilS, .v (.int .i64 0), nilS, nilS, nilS, nilS, nilS, .v (.int .i64 0), .v (.int .i64 0), .v (.int .i64 0)])) r = some (.cells TM zero15) := (hp_ne _ _ nrb).trans (hp_self _ _ _)
      have hhere : ((AHeap.none.put r (.cells TM zero15)).put b (.cells TM [.v (.int .i64 k0), .v (.int .i64 n1), .v (.int .i64 n2), .v (.int .i64 n3), nilS, nilS, .v (.int .i64 0), nilS, nilS, nilS, nilS, nilS, .v (.int .i64 0), .v (.int .i64 0), .v (.int .i64 0)])) b = some (.cells TM [.v (.int .i64 k0), .v (.int .i64 n1), .v (.int .i64 n2), .v (.int .i64 n3), nilS, nilS, .v (.int .i64 0), nilS, nilS, nilS, nilS, nilS, .v (.int .i64 0), .v (.int .i64 0), .v (.int .i64 0)]) := hp_self _ _ _
      (try simp +decide (implicitDefEqProofs := false) only [go_sem, ↓stk_g, ↓stk_c, ↓reduceIte, tm0, tm2, tm4, tm6, hp_self, hp_hp, hp_ne, nrb, nbr, ne_eq, not_false_eq_true, t4, b4, hl, Int.le_refl, e1, e2, e3, f1, f2, t1])
      refine stk_up (α := List (Str × Str) × AVal × AHeap) ((l.drop 1)).length (fun i a => ⟨[(10, .v (.int .i64 ((2 * i : Nat) : Int))), (7, .sl false 1 (strRows (l.drop 1))), (6, .v (.pointer (some ⟨b, 0, none⟩))), (2, .v (.pointer (some ⟨r, 0, none⟩))), (0, .v (.string s))], a.2.2⟩)
        (fun i a => (a.1.length ≤ i ∧ 2 * i ≤ ((l.drop 1)).length + 1 ∧ pairsP (l.drop 1) = a.1 ++ pairsP (((l.drop 1)).drop (2 * i))) ∧ RowO a.2.2 38 2 a.2.1 (postRows a.1) ∧ a.2.2 r = some (.cells TM zero15) ∧ a.2.2 b = some (.cells TM [.v (.int .i64 k0), .v (.int .i64 n1), .v (.int .i64 n2), .v (.int .i64 n3), nilS, a.2.1, .v (.int .i64 0), nilS, nilS, nilS, nilS, nilS, .v (.int .i64 0), .v (.int .i64 0), .v (.int .i64 0)]))
        ([], nilS, _) (Weak.list _ (Sub.refl _) ?_) ⟨⟨Nat.le_refl _, by omega, rfl⟩, RowO.nil, hr9, hhere⟩ ?_
      · (try simp +decide (implicitDefEqProofs := false) only [go_sem, ↓stk_g, ↓stk_c, ↓reduceIte, tm0, tm2, tm6])
        first | done | exact .loose _ _ _ | exact .refl _
      clear hr9 hhere
      rintro i ⟨done, x, H⟩ hi ⟨⟨hJ1, hJ0, hJ3⟩, hx, hr8, hh8⟩
      dsimp only at hJ1 hJ0 hJ3 hx hr8 hh8 ⊢
      have hpl := pairs_len (l.drop 1)
      generalize (l.drop 1) = l' at hi hJ0 hJ3 hpl hl1l hasm ⊢
      have hxb := hx.notC hh8
      have hxr := hx.notC hr8
      have wa := wrap_in (n := ((2 * i : Nat) : Int) + 1) (by omega) (by omega)
      by_cases hlt : 2 * i + 1 < l'.length
      · have g1 : ((2 * i : Nat) : Int) + 1 < (l'.length : Int) := by omega
        have g0 : ((2 * i : Nat) : Int) < (l'.length : Int) := by omega
        have g3 : (0 : Int) ≤ ((2 * i : Nat) : Int) + 1 := by omega
        have g4 : (((2 * i : Nat) : Int) + 1).toNat = 2 * i + 1 := by omega
        have m0 : 2 * i < l'.length := by omega
        have wb := wrap_in (n := ((2 * i : Nat) : Int) + 2) (by omega) (by omega)
        have hc2 : ((2 * i : Nat) : Int) + 2 = ((2 * (i + 1) : Nat) : Int) := by omega
        have wb2 := wrap_in (n := ((2 * (i + 1) : Nat) : Int)) (by omega) (by omega)
        have u0 := strRows_get m0
        have u1 := strRows_get hlt
        have hstep : pairsP (l'.drop (2 * i)) = (l'.getD (2 * i) ByteArray.empty, l'.getD (2 * i + 1) ByteArray.empty) :: pairsP (l'.drop (2 * (i + 1))) := by
          rw [drop_cons (d := ByteArray.empty) m0, drop_cons (d := ByteArray.empty) hlt]; rfl
        rw [hstep] at hJ3
        generalize hii : (2 * i : Nat) = ii at g1 g0 g3 g4 m0 wa wb hc2 u0 u1 hlt hJ3 ⊢
        obtain rfl | ⟨c, mm, rfl⟩ := hx.shape
        all_goals (
          (try simp +decide (implicitDefEqProofs := false) only [go_sem, ↓stk_g, ↓stk_c, ↓reduceIte, e2, wa, g0, g1, g3, g4, m0, hlt, u0, u1, hh8, Int.le_refl])
          refine stk_appX (rows := postRows done) (new := [[.v (.string (l'.getD ii ByteArray.empty)), .v (.string (l'.getD (ii + 1) ByteArray.empty))]]) hx (by rfl) (by simp only [postRows_len, List.length_cons, List.length_nil]; omega) fun y H2 hy hrs hf => ?_
          have hr2 := hrs r _ hr8 hxr
          have hh2 := hrs b _ hh8 hxb
          have hyb := hf b _ hh8 hxb
          obtain rfl | ⟨c2, mm2, rfl⟩ := hy.shape
          all_goals (
            (try simp +decide (implicitDefEqProofs := false) only [go_sem, ↓stk_g, ↓stk_c, ↓reduceIte, hh2, hp_self, wb, wb2, hc2, Int.le_refl])
            refine ⟨by omega, (done ++ [(l'.getD ii ByteArray.empty, l'.getD (ii + 1) ByteArray.empty)], _, _), Weak.list _ (Sub.refl _) ?_, ⟨by simp; omega, by omega, by rw [hJ3]; simp⟩, (by rw [← postRows_append]; exact hy.put hyb), (hp_ne _ _ nrb).trans hr2, hp_self _ _ _⟩
            (try simp +decide (implicitDefEqProofs := false) only [go_sem, ↓stk_g, ↓stk_c, ↓reduceIte])
            first | done | exact .loose _ _ _ | exact .refl _))
      have g1 : ¬ ((2 * i : Nat) : Int) + 1 < (l'.length : Int) := by omega
      rw [pairs_short (l := l'.drop (2 * i)) (by rw [List.length_drop]; omega), List.append_nil] at hJ3
      rw [hJ3] at hasm hpl
      have hr9 := hr8
      have hhere := hh8
      generalize (2 * i : Nat) = ii at g1 wa ⊢
      (try simp +decide (implicitDefEqProofs := false) only [go_sem, ↓stk_g, ↓stk_c, ↓reduceIte, e2, wa, g1, hh8])
      have hfit : MFits (Msg.mk k0 n1 n2 n3 [] done pol0) := ⟨Nat.zero_le _, by show done.length ≤ _; omega, ((pol0_small 0 0).fits (by omega) (by omega))⟩
      refine stk_pureW ⟨[(115, .agg (msgCells (Msg.mk k0 n1 n2 n3 [] done pol0))), (6, .pl (msgCells (Msg.mk k0 n1 n2 n3 [] done pol0))), (2, .v (.pointer (some ⟨r, 0, none⟩))), (0, .v (.string s))], AHeap.none.put r (.cells TM zero15)⟩ (Weak.list _ (sub_one hr9) ?_) (encode15_ok L (Msg.mk k0 n1 n2 n3 [] done pol0) hfit) fun v hv => ?_
      · (try simp +decide (implicitDefEqProofs := false) only [go_sem, ↓stk_g, ↓stk_c, ↓reduceIte])
        exact ⟨.agg rfl (msgCells_one _) (FZ.msgX (m := (Msg.mk k0 n1 n2 n3 [] done pol0)) (.nil 1) (hx.row.fz (postGood done) (fun c hc => one_none (fun e => hxr (by rw [hc, e])))) (.nil 1) (.nil 1) (.nil 1) (.nil 1) (.nil 1)), .cells hhere (one_none nbr) rfl (FZ.msgX (m := (Msg.mk k0 n1 n2 n3 [] done pol0)) (.nil 1) (hx.row.fz (postGood done) (fun c hc => one_none (fun e => hxr (by rw [hc, e])))) (.nil 1) (.nil 1) (.nil 1) (.nil 1) (.nil 1))⟩
      subst hv
      clear hhere hr9
      rw [hasm] at hV2
      unfold encR
      cases hrt : rightM (Msg.mk k0 n1 n2 n3 [] done pol0)
      · rw [if_neg (fun h => by rw [hrt] at h; exact absurd h.1 (by simp))] at hV2
        (try simp +decide (implicitDefEqProofs := false) only [go_sem, ↓stk_g, ↓stk_c, ↓reduceIte])
        refine aretC_one (by (try simp +decide (implicitDefEqProofs := false) only [go_sem, ↓stk_g, ↓stk_c, ↓reduceIte, hp_self])) ?_
        (try simp +decide (implicitDefEqProofs := false) only [go_sem, ↓stk_g, ↓stk_c, ↓reduceIte, hp_self])
        exact ⟨.inr rfl, AHeap.none, _, Sub.none _, .tup2 .zeroM (.refl _), by rw [hV2]; rfl⟩
      by_cases hte : msgT (Msg.mk k0 n1 n2 n3 [] done pol0) = s
      · have h1 : decide (msgT (Msg.mk k0 n1 n2 n3 [] done pol0) ≠ s) = false := decide_eq_false (fun h => h hte)
        rw [if_pos ⟨hrt, hte⟩] at hV2
        (try simp +decide (implicitDefEqProofs := false) only [go_sem, ↓stk_g, ↓stk_c, ↓reduceIte, h1, msgCells])
        refine aretC_one (by (try simp +decide (implicitDefEqProofs := false) only [go_sem, ↓stk_g, ↓stk_c, ↓reduceIte, hp_self])) ?_
        (try simp +decide (implicitDefEqProofs := false) only [go_sem, ↓stk_g, ↓stk_c, ↓reduceIte, hp_self])
        exact ⟨.inr rfl, AHeap.none, _, Sub.none _, .refl _, by rw [hV2]; rfl⟩
      · have h1 : decide (msgT (Msg.mk k0 n1 n2 n3 [] done pol0) ≠ s) = true := decide_eq_true hte
        rw [if_neg (fun h => hte h.2)] at hV2
        (try simp +decide (implicitDefEqProofs := false) only [go_sem, ↓stk_g, ↓stk_c, ↓reduceIte, h1, msgCells])
        refine aretC_one (by (try simp +decide (implicitDefEqProofs := false) only [go_sem, ↓stk_g, ↓stk_c, ↓reduceIte, hp_self])) ?_
        (try simp +decide (implicitDefEqProofs := false) only [go_sem, ↓stk_g, ↓stk_c, ↓reduceIte, hp_self])
        exact ⟨.inr rfl, AHeap.none, _, Sub.none _, .tup2 .zeroM (.refl _), by rw [hV2]; rfl⟩
    · have f1 : decide ((0 : Int) < (l.length : Int)) = false := decide_eq_false (by omega)
      have hl0 : l = [] := List.length_eq_zero_iff.1 (by omega)
      have hl1l : l.length ≤ 1000000 := hll
      replace hasm : assembleR out = (Msg.mk k0 n1 n2 n3 [] (pairsP l) pol0) := by rw [hasm]; unfold withM; dsimp only; rw [if_neg (fun h => k3 h.1), if_neg (fun h => k1 h.1), if_neg (fun h => l1 h.2), hl0]; rfl
      have hr9 : ((AHeap.none.put r (.cells TM zero15)).put b (.cells TM [.v (.int .i64 k0), .v (.int .i64 n1), .v (.int .i64 n2), .v (.int .i64 n3), nilS, nilS, .v (.int .i64 0), nilS, nilS, nilS, nilS, nilS, .v (.int .i64 0), .v (.int .i64 0), .v (.int .i64 0)])) r = some (.cells TM zero15) := (hp_ne _ _ nrb).trans (hp_self _ _ _)
      have hhere : ((AHeap.none.put r (.cells TM zero15)).put b (.cells TM [.v (.int .i64 k0), .v (.int .i64 n1), .v (.int .i64 n2), .v (.int .i64 n3), nilS, nilS, .v (.int .i64 0), nilS, nilS, nilS, nilS, nilS, .v (.int .i64 0), .v (.int .i64 0), .v (.int .i64 0)])) b = some (.cells TM [.v (.int .i64 k0), .v (.int .i64 n1), .v (.int .i64 n2), .v (.int .i64 n3), nilS, nilS, .v (.int .i64 0), nilS, nilS, nilS, nilS, nilS, .v (.int .i64 0), .v (.int .i64 0), .v (.int .i64 0)]) := hp_self _ _ _
      (try simp +decide (implicitDefEqProofs := false) only [go_sem, ↓stk_g, ↓stk_c, ↓reduceIte, tm0, tm2, tm4, tm6, hp_self, hp_hp, hp_ne, nrb, nbr, ne_eq, not_false_eq_true, t4, b4, hl, Int.le_refl, e1, e2, e3, f1])
      refine stk_up (α := List (Str × Str) × AVal × AHeap) (l).length (fun i a => ⟨[(10, .v (.int .i64 ((2 * i : Nat) : Int))), (7, .sl false 1 (strRows l)), (6, .v (.pointer (some ⟨b, 0, none⟩))), (2, .v (.pointer (some ⟨r, 0, none⟩))), (0, .v (.string s))], a.2.2⟩)
        (fun i a => (a.1.length ≤ i ∧ 2 * i ≤ (l).length + 1 ∧ pairsP l = a.1 ++ pairsP ((l).drop (2 * i))) ∧ RowO a.2.2 38 2 a.2.1 (postRows a.1) ∧ a.2.2 r = some (.cells TM zero15) ∧ a.2.2 b = some (.cells TM [.v (.int .i64 k0), .v (.int .i64 n1), .v (.int .i64 n2), .v (.int .i64 n3), nilS, a.2.1, .v (.int .i64 0), nilS, nilS, nilS, nilS, nilS, .v (.int .i64 0), .v (.int .i64 0), .v (.int .i64 0)]))
        ([], nilS, _) (Weak.list _ (Sub.refl _) ?_) ⟨⟨Nat.le_refl _, by omega, rfl⟩, RowO.nil, hr9, hhere⟩ ?_
      · (try simp +decide (implicitDefEqProofs := false) only [go_sem, ↓stk_g, ↓stk_c, ↓reduceIte, tm0, tm2, tm6])
        first | done | exact .loose _ _ _ | exact .refl _
      clear hr9 hhere
      rintro i ⟨done, x, H⟩ hi ⟨⟨hJ1, hJ0, hJ3⟩, hx, hr8, hh8⟩
      dsimp only at hJ1 hJ0 hJ3 hx hr8 hh8 ⊢
      have hpl := pairs_len l
      generalize l = l' at hi hJ0 hJ3 hpl hl1l hasm ⊢
      have hxb := hx.notC hh8
      have hxr := hx.notC hr8
      have wa := wrap_in (n := ((2 * i : Nat) : Int) + 1) (by omega) (by omega)
      by_cases hlt : 2 * i + 1 < l'.length
      · have g1 : ((2 * i : Nat) : Int) + 1 < (l'.length : Int) := by omega
        have g0 : ((2 * i : Nat) : Int) < (l'.length : Int) := by omega
        have g3 : (0 : Int) ≤ ((2 * i : Nat) : Int) + 1 := by omega
        have g4 : (((2 * i : Nat) : Int) + 1).toNat = 2 * i + 1 := by omega
        have m0 : 2 * i < l'.length := by omega
        have wb := wrap_in (n := ((2 * i : Nat) : Int) + 2) (by omega) (by omega)
        have hc2 : ((2 * i : Nat) : Int) + 2 = ((2 * (i + 1) : Nat) : Int) := by omega
        have wb2 := wrap_in (n := ((2 * (i + 1) : Nat) : Int)) (by omega) (by omega)
        have u0 := strRows_get m0
        have u1 := strRows_get hlt
        have hstep : pairsP (l'.drop (2 * i)) = (l'.getD (2 * i) ByteArray.empty, l'.getD (2 * i + 1) ByteArray.empty) :: pairsP (l'.drop (2 * (i + 1))) := by
          rw [drop_cons (d := ByteArray.empty) m0, drop_cons (d := ByteArray.empty) hlt]; rfl
        rw [hstep] at hJ3
        generalize hii : (2 * i : Nat) = ii at g1 g0 g3 g4 m0 wa wb hc2 u0 u1 hlt hJ3 ⊢
        obtain rfl | ⟨c, mm, rfl⟩ := hx.shape
        all_goals (
          (try simp +decide (implicitDefEqProofs := false) only [go_sem, ↓stk_g, ↓stk_c, ↓reduceIte, e2, wa, g0, g1, g3, g4, m0, hlt, u0, u1, hh8, Int.le_refl])
          refine stk_appX (rows := postRows done) (new := [[.v (.string (l'.getD ii ByteArray.empty)), .v (.string (l'.getD (ii + 1) ByteArray.empty))]]) hx (by rfl) (by simp only [postRows_len, List.length_cons, List.length_nil]; omega) fun y H2 hy hrs hf => ?_
          have hr2 := hrs r _ hr8 hxr
          have hh2 := hrs b _ hh8 hxb
          have hyb := hf b _ hh8 hxb
          obtain rfl | ⟨c2, mm2, rfl⟩ := hy.shape
          all_goals (
            (try simp +decide (implicitDefEqProofs := false) only [go_sem, ↓stk_g, ↓stk_c, ↓reduceIte, hh2, hp_self, wb, wb2, hc2, Int.le_refl])
            refine ⟨by omega, (done ++ [(l'.getD ii ByteArray.empty, l'.getD (ii + 1) ByteArray.empty)], _, _), Weak.list _ (Sub.refl _) ?_, ⟨by simp; omega, by omega, by rw [hJ3]; simp⟩, (by rw [← postRows_append]; exact hy.put hyb), (hp_ne _ _ nrb).trans hr2, hp_self _ _ _⟩
            (try simp +decide (implicitDefEqProofs := false) only [go_sem, ↓stk_g, ↓stk_c, ↓reduceIte])
            first | done | exact .loose _ _ _ | exact .refl _))
      have g1 : ¬ ((2 * i : Nat) : Int) + 1 < (l'.length : Int) := by omega
      rw [pairs_short (l := l'.drop (2 * i)) (by rw [List.length_drop]; omega), List.append_nil] at hJ3
      rw [hJ3] at hasm hpl
      have hr9 := hr8
      have hhere := hh8
      generalize (2 * i : Nat) = ii at g1 wa ⊢
      (try simp +decide (implicitDefEqProofs := false) only [go_sem, ↓stk_g, ↓stk_c, ↓reduceIte, e2, wa, g1, hh8])
      have hfit : MFits (Msg.mk k0 n1 n2 n3 [] done pol0) := ⟨Nat.zero_le _, by show done.length ≤ _; omega, ((pol0_small 0 0).fits (by omega) (by omega))⟩
      refine stk_pureW ⟨[(115, .agg (msgCells (Msg.mk k0 n1 n2 n3 [] done pol0))), (6, .pl (msgCells (Msg.mk k0 n1 n2 n3 [] done pol0))), (2, .v (.pointer (some ⟨r, 0, none⟩))), (0, .v (.string s))], AHeap.none.put r (.cells TM zero15)⟩ (Weak.list _ (sub_one hr9) ?_) (encode15_ok L (Msg.mk k0 n1 n2 n3 [] done pol0) hfit) fun v hv => ?_
      · (try simp +decide (implicitDefEqProofs := false) only [go_sem, ↓stk_g, ↓stk_c, ↓reduceIte])
        exact ⟨.agg rfl (msgCells_one _) (FZ.msgX (m := (Msg.mk k0 n1 n2 n3 [] done pol0)) (.nil 1) (hx.row.fz (postGood done) (fun c hc => one_none (fun e => hxr (by rw [hc, e])))) (.nil 1) (.nil 1) (.nil 1) (.nil 1) (.nil 1)), .cells hhere (one_none nbr) rfl (FZ.msgX (m := (Msg.mk k0 n1 n2 n3 [] done pol0)) (.nil 1) (hx.row.fz (postGood done) (fun c hc => one_none (fun e => hxr (by rw [hc, e])))) (.nil 1) (.nil 1) (.nil 1) (.nil 1) (.nil 1))⟩
      subst hv
      clear hhere hr9
      rw [hasm] at hV2
      unfold encR
      cases hrt : rightM (Msg.mk k0 n1 n2 n3 [] done pol0)
      · rw [if_neg (fun h => by rw [hrt] at h; exact absurd h.1 (by simp))] at hV2
        (try simp +decide (implicitDefEqProofs := false) only [go_sem, ↓stk_g, ↓stk_c, ↓reduceIte])
        refine aretC_one (by (try simp +decide (implicitDefEqProofs := false) only [go_sem, ↓stk_g, ↓stk_c, ↓reduceIte, hp_self])) ?_
        (try simp +decide (implicitDefEqProofs := false) only [go_sem, ↓stk_g, ↓stk_c, ↓reduceIte, hp_self])
        exact ⟨.inr rfl, AHeap.none, _, Sub.none _, .tup2 .zeroM (.refl _), by rw [hV2]; rfl⟩
      by_cases hte : msgT (Msg.mk k0 n1 n2 n3 [] done pol0) = s
      · have h1 : decide (msgT (Msg.mk k0 n1 n2 n3 [] done pol0) ≠ s) = false := decide_eq_false (fun h => h hte)
        rw [if_pos ⟨hrt, hte⟩] at hV2
        (try simp +decide (implicitDefEqProofs := false) only [go_sem, ↓stk_g, ↓stk_c, ↓reduceIte, h1, msgCells])
        refine aretC_one (by (try simp +decide (implicitDefEqProofs := false) only [go_sem, ↓stk_g, ↓stk_c, ↓reduceIte, hp_self])) ?_
        (try simp +decide (implicitDefEqProofs := false) only [go_sem, ↓stk_g, ↓stk_c, ↓reduceIte, hp_self])
        exact ⟨.inr rfl, AHeap.none, _, Sub.none _, .refl _, by rw [hV2]; rfl⟩
      · have h1 : decide (msgT (Msg.mk k0 n1 n2 n3 [] done pol0) ≠ s) = true := decide_eq_true hte
        rw [if_neg (fun h => hte h.2)] at hV2
        (try simp +decide (implicitDefEqProofs := false) only [go_sem, ↓stk_g, ↓stk_c, ↓reduceIte, h1, msgCells])
        refine aretC_one (by (try simp +decide (implicitDefEqProofs := false) only [go_sem, ↓stk_g, ↓stk_c, ↓reduceIte, hp_self])) ?_
        (try simp +decide (implicitDefEqProofs := false) only [go_sem, ↓stk_g, ↓stk_c, ↓reduceIte, hp_self])
        exact ⟨.inr rfl, AHeap.none, _, Sub.none _, .tup2 .zeroM (.refl _), by rw [hV2]; rfl⟩
  have e2 : decide (k0 = 2) = false := decide_eq_false k2
  replace hasm : assembleR out = (Msg.mk k0 n1 n2 n3 [] [] pol0) := by rw [hasm]; unfold withM; dsimp only; rw [if_neg (fun h => k3 h.1), if_neg (fun h => k1 h.1), if_neg (fun h => k2 h.1)]
  have hr9 : ((AHeap.none.put r (.cells TM zero15)).put b (.cells TM [.v (.int .i64 k0), .v (.int .i64 n1), .v (.int .i64 n2), .v (.int .i64 n3), nilS, nilS, .v (.int .i64 0), nilS, nilS, nilS, nilS, nilS, .v (.int .i64 0), .v (.int .i64 0), .v (.int .i64 0)])) r = some (.cells TM zero15) := (hp_ne _ _ nrb).trans (hp_self _ _ _)
  have hhere : ((AHeap.none.put r (.cells TM zero15)).put b (.cells TM [.v (.int .i64 k0), .v (.int .i64 n1), .v (.int .i64 n2), .v (.int .i64 n3), nilS, nilS, .v (.int .i64 0), nilS, nilS, nilS, nilS, nilS, .v (.int .i64 0), .v (.int .i64 0), .v (.int .i64 0)])) b = some (.cells TM [.v (.int .i64 k0), .v (.int .i64 n1), .v (.int .i64 n2), .v (.int .i64 n3), nilS, nilS, .v (.int .i64 0), nilS, nilS, nilS, nilS, nilS, .v (.int .i64 0), .v (.int .i64 0), .v (.int .i64 0)]) := hp_self _ _ _
  (try simp +decide (implicitDefEqProofs := false) only [go_sem, ↓stk_g, ↓stk_c, ↓reduceIte, tm0, tm2, tm4, tm6, hp_self, hp_hp, hp_ne, nrb, nbr, ne_eq, not_false_eq_true, t4, b4, hl, Int.le_refl, e1, e2, e3])
  generalize ((AHeap.none.put r (.cells TM zero15)).put b (.cells TM [.v (.int .i64 k0), .v (.int .i64 n1), .v (.int .i64 n2), .v (.int .i64 n3), nilS, nilS, .v (.int .i64 0), nilS, nilS, nilS, nilS, nilS, .v (.int .i64 0), .v (.int .i64 0), .v (.int .i64 0)])) = HH at hr9 hhere ⊢
  refine stk_up (α := Unit) 0 (fun _ _ => ⟨[(6, .v (.pointer (some ⟨b, 0, none⟩))), (2, .v (.pointer (some ⟨r, 0, none⟩))), (0, .v (.string s))], HH⟩) (fun _ _ => True) () (Weak.list _ (Sub.refl _) ?_) trivial ?_
  · (try simp +decide (implicitDefEqProofs := false) only [go_sem, ↓stk_g, ↓stk_c, ↓reduceIte, tm0, tm2, tm6])
    first | done | exact FZ.refl _
  rintro i ⟨⟩ hi -
  (try simp +decide (implicitDefEqProofs := false) only [go_sem, ↓stk_g, ↓stk_c, ↓reduceIte, hhere, e2])
  have hfit : MFits (Msg.mk k0 n1 n2 n3 [] [] pol0) := ⟨Nat.zero_le _, Nat.zero_le _, ((pol0_small 0 0).fits (by omega) (by omega))⟩
  refine stk_pureW ⟨[(115, .agg (msgCells (Msg.mk k0 n1 n2 n3 [] [] pol0))), (6, .pl (msgCells (Msg.mk k0 n1 n2 n3 [] [] pol0))), (2, .v (.pointer (some ⟨r, 0, none⟩))), (0, .v (.string s))], AHeap.none.put r (.cells TM zero15)⟩ (Weak.list _ (sub_one hr9) ?_) (encode15_ok L (Msg.mk k0 n1 n2 n3 [] [] pol0) hfit) fun v hv => ?_
  · (try simp +decide (implicitDefEqProofs := false) only [go_sem, ↓stk_g, ↓stk_c, ↓reduceIte])
    exact ⟨.agg rfl (msgCells_one _) (FZ.msgX (m := (Msg.mk k0 n1 n2 n3 [] [] pol0)) (.nil 1) (.nil 2) (.nil 1) (.nil 1) (.nil 1) (.nil 1) (.nil 1)), .cells hhere (one_none nbr) rfl (FZ.msgX (m := (Msg.mk k0 n1 n2 n3 [] [] pol0)) (.nil 1) (.nil 2) (.nil 1) (.nil 1) (.nil 1) (.nil 1) (.nil 1))⟩
  subst hv
  clear hhere hr9
  rw [hasm] at hV2
  unfold encR
  cases hrt : rightM (Msg.mk k0 n1 n2 n3 [] [] pol0)
  · rw [if_neg (fun h => by rw [hrt] at h; exact absurd h.1 (by simp))] at hV2
    (try simp +decide (implicitDefEqProofs := false) only [go_sem, ↓stk_g, ↓stk_c, ↓reduceIte])
    refine aretC_one (by (try simp +decide (implicitDefEqProofs := false) only [go_sem, ↓stk_g, ↓stk_c, ↓reduceIte, hp_self])) ?_
    (try simp +decide (implicitDefEqProofs := false) only [go_sem, ↓stk_g, ↓stk_c, ↓reduceIte, hp_self])
    exact ⟨.inr rfl, AHeap.none, _, Sub.none _, .tup2 .zeroM (.refl _), by rw [hV2]; rfl⟩
  by_cases hte : msgT (Msg.mk k0 n1 n2 n3 [] [] pol0) = s
  · have h1 : decide (msgT (Msg.mk k0 n1 n2 n3 [] [] pol0) ≠ s) = false := decide_eq_false (fun h => h hte)
    rw [if_pos ⟨hrt, hte⟩] at hV2
    (try simp +decide (implicitDefEqProofs := false) only [go_sem, ↓stk_g, ↓stk_c, ↓reduceIte, h1, msgCells])
    refine aretC_one (by (try simp +decide (implicitDefEqProofs := false) only [go_sem, ↓stk_g, ↓stk_c, ↓reduceIte, hp_self])) ?_
    (try simp +decide (implicitDefEqProofs := false) only [go_sem, ↓stk_g, ↓stk_c, ↓reduceIte, hp_self])
    exact ⟨.inr rfl, AHeap.none, _, Sub.none _, .refl _, by rw [hV2]; rfl⟩
  · have h1 : decide (msgT (Msg.mk k0 n1 n2 n3 [] [] pol0) ≠ s) = true := decide_eq_true hte
    rw [if_neg (fun h => hte h.2)] at hV2
    (try simp +decide (implicitDefEqProofs := false) only [go_sem, ↓stk_g, ↓stk_c, ↓reduceIte, h1, msgCells])
    refine aretC_one (by (try simp +decide (implicitDefEqProofs := false) only [go_sem, ↓stk_g, ↓stk_c, ↓reduceIte, hp_self])) ?_
    (try simp +decide (implicitDefEqProofs := false) only [go_sem, ↓stk_g, ↓stk_c, ↓reduceIte, hp_self])
    exact ⟨.inr rfl, AHeap.none, _, Sub.none _, .tup2 .zeroM (.refl _), by rw [hV2]; rfl⟩
set_option maxHeartbeats 16000000 in
theorem decode15_ok {W : World} (L : Laid W) (s : Str) (hs : s.size ≤ 19000) : ACalls Tryz.prog W 12 [.v (.string s)] AHeap.none fun v _ => v = decodeA (decodeRV s) := by
  refine fn_run follows k_Decode15 rfl ?_
  simp only [c_Decode15, aretC_nil, List.zipIdx_cons, List.zipIdx_nil, List.map_cons, List.map_nil, Nat.zero_add]
  (try simp +decide (implicitDefEqProofs := false) only [go_sem, ↓stk_g, ↓stk_c, ↓reduceIte])
  rw [stk_alloc]
  intro r hr
  clear hr
  (try simp +decide (implicitDefEqProofs := false) only [go_sem, ↓stk_g, ↓stk_c, ↓reduceIte])
  refine stk_pure (fields_ok s (by omega)) fun v hv => ?_
  subst hv
  obtain ⟨hz1, hz2, hz3⟩ := fieldsR_size s.size s (Nat.le_refl _)
  have hV : decodeRV s = decodeRL s (fieldsR s.size s) := rfl
  generalize fieldsR s.size s = q at hz1 hz2 hz3 hV ⊢
  obtain ⟨out, left⟩ := q
  dsimp only at hz1 hz2 hz3 ⊢
  unfold decodeRL at hV
  dsimp only at hV
  (try simp +decide (implicitDefEqProofs := false) only [go_sem, ↓stk_g, ↓stk_c, ↓reduceIte])
  refine stk_pure (begins_ok left (by omega)) fun v hv => ?_
  subst hv
  cases hb : begsR left
  rotate_left
  · rw [hb, if_pos rfl] at hV
    (try simp +decide (implicitDefEqProofs := false) only [go_sem, ↓stk_g, ↓stk_c, ↓reduceIte, hp_self])
    refine aretC_one (by (try simp +decide (implicitDefEqProofs := false) only [go_sem, ↓stk_g, ↓stk_c, ↓reduceIte, hp_self])) ?_
    (try simp +decide (implicitDefEqProofs := false) only [go_sem, ↓stk_g, ↓stk_c, ↓reduceIte, hp_self])
    exact ⟨.inr rfl, AHeap.none, _, Sub.none _, .tup2 .zeroM (.refl _), by rw [hV]; rfl⟩
  rw [hb, if_neg (by decide)] at hV
  by_cases hne : left = ByteArray.empty
  case neg =>
    have d1 : decide (left ≠ ByteArray.empty) = true := decide_eq_true hne
    rw [if_pos (.inl hne)] at hV
    (try simp +decide (implicitDefEqProofs := false) only [go_sem, ↓stk_g, ↓stk_c, ↓reduceIte, d1, hp_self])
    refine aretC_one (by (try simp +decide (implicitDefEqProofs := false) only [go_sem, ↓stk_g, ↓stk_c, ↓reduceIte, hp_self])) ?_
    (try simp +decide (implicitDefEqProofs := false) only [go_sem, ↓stk_g, ↓stk_c, ↓reduceIte, hp_self])
    exact ⟨.inr rfl, AHeap.none, _, Sub.none _, .tup2 .zeroM (.refl _), by rw [hV]; rfl⟩
  have d1 : decide (left ≠ ByteArray.empty) = false := decide_eq_false (fun h => h hne)
  by_cases h4 : out.length < 4
  · have c4 : (out.length : Int) < 4 := by omega
    rw [if_pos (.inr h4)] at hV
    (try simp +decide (implicitDefEqProofs := false) only [go_sem, ↓stk_g, ↓stk_c, ↓reduceIte, d1, c4, hp_self])
    refine aretC_one (by (try simp +decide (implicitDefEqProofs := false) only [go_sem, ↓stk_g, ↓stk_c, ↓reduceIte, hp_self])) ?_
    (try simp +decide (implicitDefEqProofs := false) only [go_sem, ↓stk_g, ↓stk_c, ↓reduceIte, hp_self])
    exact ⟨.inr rfl, AHeap.none, _, Sub.none _, .tup2 .zeroM (.refl _), by rw [hV]; rfl⟩
  have c4 : ¬ (out.length : Int) < 4 := by omega
  rw [if_neg (fun h => h.elim (fun h => h hne) h4)] at hV
  have hol : out.length ≤ 1000000 := by omega
  have i0 : (0 : Int) < (out.length : Int) := by omega
  have i1 : (1 : Int) < (out.length : Int) := by omega
  have i2 : (2 : Int) < (out.length : Int) := by omega
  have i3 : (3 : Int) < (out.length : Int) := by omega
  have n0 : 0 < out.length := by omega
  have n1 : 1 < out.length := by omega
  have n2 : 2 < out.length := by omega
  have n3 : 3 < out.length := by omega
  have q0 := strRows_get n0
  have q1 := strRows_get n1
  have q2 := strRows_get n2
  have q3 := strRows_get n3
  have t1 : (1 : Int).toNat = 1 := rfl
  have t2 : (2 : Int).toNat = 2 := rfl
  have t3 : (3 : Int).toNat = 3 := rfl
  have hzz : ∀ j, j < out.length → (out.getD j ByteArray.empty).size ≤ 1000000 := fun j hj => by
    have e : out.getD j ByteArray.empty = out[j] := by simp [hj]
    rw [e]; have := hz1 _ (List.getElem_mem hj); omega
  have z0 := hzz 0 n0
  have z1 := hzz 1 n1
  have z2 := hzz 2 n2
  have z3 := hzz 3 n3
  have hsm2 : numR (out.getD 0 ByteArray.empty) = 3 → (out.drop 4).length = 1 → ((out.drop 4).getD 0 ByteArray.empty).size ≤ 19000 := fun _ h1 => by
    have := hz1 _ (List.mem_of_mem_drop (getD_mem h1)); omega
  have hasm : assembleR out = withM ⟨numR (out.getD 0 ByteArray.empty), numR (out.getD 1 ByteArray.empty), numR (out.getD 2 ByteArray.empty), numR (out.getD 3 ByteArray.empty), [], [], pol0⟩ (out.drop 4) := rfl
  clear hzz
  (try simp +decide (implicitDefEqProofs := false) only [go_sem, ↓stk_g, ↓stk_c, ↓reduceIte, d1, c4, i0, i1, i2, i3, n0, n1, n2, n3, t1, t2, t3, q0, q1, q2, q3])
  generalize out.getD 0 ByteArray.empty = s0 at z0 hasm hsm2 ⊢
  generalize out.getD 1 ByteArray.empty = s1 at z1 hasm ⊢
  generalize out.getD 2 ByteArray.empty = s2 at z2 hasm ⊢
  generalize out.getD 3 ByteArray.empty = s3 at z3 hasm ⊢
  clear q0 q1 q2 q3
  refine stk_both ?_ ?_
  rotate_left
  · (try simp +decide (implicitDefEqProofs := false) only [go_sem, ↓stk_g, ↓stk_c, ↓reduceIte])
    rw [stk_alloc]
    intro b hb
    have nbr : b ≠ r := new_ne (hp_self _ _ _) hb
    clear hb
    (try simp +decide (implicitDefEqProofs := false) only [go_sem, ↓stk_g, ↓stk_c, ↓reduceIte])
    refine stk_callq (rnumber15_ok s0 z0) fun v hv => ?_
    subst hv
    (try simp +decide (implicitDefEqProofs := false) only [go_sem, ↓stk_g, ↓stk_c, ↓reduceIte])
    refine stk_callq (rnumber15_ok s1 z1) fun v hv => ?_
    subst hv
    (try simp +decide (implicitDefEqProofs := false) only [go_sem, ↓stk_g, ↓stk_c, ↓reduceIte])
    refine stk_callq (rnumber15_ok s2 z2) fun v hv => ?_
    subst hv
    (try simp +decide (implicitDefEqProofs := false) only [go_sem, ↓stk_g, ↓stk_c, ↓reduceIte])
    refine stk_pure (rnumber15_ok s3 z3) fun v hv => ?_
    subst hv
    (try simp +decide (implicitDefEqProofs := false) only [go_sem, ↓stk_g, ↓stk_c, ↓reduceIte, hp_self, hp_hp])
    exact decode15_tail L s out (numR s0) (numR s1) (numR s2) (numR s3) hol h4 hV hasm hsm2 nbr _ (by rfl) (by rfl) (by rfl) (by rfl)
  (try simp +decide (implicitDefEqProofs := false) only [go_sem, ↓stk_g, ↓stk_c, ↓reduceIte])
  refine stk_callq (rnumber15_ok s0 z0) fun v hv => ?_
  subst hv
  (try simp +decide (implicitDefEqProofs := false) only [go_sem, ↓stk_g, ↓stk_c, ↓reduceIte])
  refine stk_both ?_ ?_
  rotate_left
  · (try simp +decide (implicitDefEqProofs := false) only [go_sem, ↓stk_g, ↓stk_c, ↓reduceIte])
    rw [stk_alloc]
    intro b hb
    have nbr : b ≠ r := new_ne (hp_self _ _ _) hb
    clear hb
    (try simp +decide (implicitDefEqProofs := false) only [go_sem, ↓stk_g, ↓stk_c, ↓reduceIte])
    refine stk_callq (rnumber15_ok s1 z1) fun v hv => ?_
    subst hv
    (try simp +decide (implicitDefEqProofs := false) only [go_sem, ↓stk_g, ↓stk_c, ↓reduceIte])
    refine stk_callq (rnumber15_ok s2 z2) fun v hv => ?_
    subst hv
    (try simp +decide (implicitDefEqProofs := false) only [go_sem, ↓stk_g, ↓stk_c, ↓reduceIte])
    refine stk_pure (rnumber15_ok s3 z3) fun v hv => ?_
    subst hv
    (try simp +decide (implicitDefEqProofs := false) only [go_sem, ↓stk_g, ↓stk_c, ↓reduceIte, hp_self, hp_hp])
    exact decode15_tail L s out (numR s0) (numR s1) (numR s2) (numR s3) hol h4 hV hasm hsm2 nbr _ (by rfl) (by rfl) (by rfl) (by rfl)
  (try simp +decide (implicitDefEqProofs := false) only [go_sem, ↓stk_g, ↓stk_c, ↓reduceIte])
  refine stk_callq (rnumber15_ok s1 z1) fun v hv => ?_
  subst hv
  (try simp +decide (implicitDefEqProofs := false) only [go_sem, ↓stk_g, ↓stk_c, ↓reduceIte])
  refine stk_both ?_ ?_
  rotate_left
  · (try simp +decide (implicitDefEqProofs := false) only [go_sem, ↓stk_g, ↓stk_c, ↓reduceIte])
    rw [stk_alloc]
    intro b hb
    have nbr : b ≠ r := new_ne (hp_self _ _ _) hb
    clear hb
    (try simp +decide (implicitDefEqProofs := false) only [go_sem, ↓stk_g, ↓stk_c, ↓reduceIte])
    refine stk_callq (rnumber15_ok s2 z2) fun v hv => ?_
    subst hv
    (try simp +decide (implicitDefEqProofs := false) only [go_sem, ↓stk_g, ↓stk_c, ↓reduceIte])
    refine stk_pure (rnumber15_ok s3 z3) fun v hv => ?_
    subst hv
    (try simp +decide (implicitDefEqProofs := false) only [go_sem, ↓stk_g, ↓stk_c, ↓reduceIte, hp_self, hp_hp])
    exact decode15_tail L s out (numR s0) (numR s1) (numR s2) (numR s3) hol h4 hV hasm hsm2 nbr _ (by rfl) (by rfl) (by rfl) (by rfl)
  (try simp +decide (implicitDefEqProofs := false) only [go_sem, ↓stk_g, ↓stk_c, ↓reduceIte])
  refine stk_callq (rnumber15_ok s2 z2) fun v hv => ?_
  subst hv
  (try simp +decide (implicitDefEqProofs := false) only [go_sem, ↓stk_g, ↓stk_c, ↓reduceIte])
  refine stk_both ?_ ?_
  rotate_left
  · (try simp +decide (implicitDefEqProofs := false) only [go_sem, ↓stk_g, ↓stk_c, ↓reduceIte])
    rw [stk_alloc]
    intro b hb
    have nbr : b ≠ r := new_ne (hp_self _ _ _) hb
    clear hb
    (try simp +decide (implicitDefEqProofs := false) only [go_sem, ↓stk_g, ↓stk_c, ↓reduceIte])
    refine stk_pure (rnumber15_ok s3 z3) fun v hv => ?_
    subst hv
    (try simp +decide (implicitDefEqProofs := false) only [go_sem, ↓stk_g, ↓stk_c, ↓reduceIte, hp_self, hp_hp])
    exact decode15_tail L s out (numR s0) (numR s1) (numR s2) (numR s3) hol h4 hV hasm hsm2 nbr _ (by rfl) (by rfl) (by rfl) (by rfl)
  (try simp +decide (implicitDefEqProofs := false) only [go_sem, ↓stk_g, ↓stk_c, ↓reduceIte])
  refine stk_pure (rnumber15_ok s3 z3) fun v hv => ?_
  subst hv
  (try simp +decide (implicitDefEqProofs := false) only [go_sem, ↓stk_g, ↓stk_c, ↓reduceIte])
  rw [stk_alloc]
  intro b hb
  have nbr : b ≠ r := new_ne (hp_self _ _ _) hb
  clear hb
  (try simp +decide (implicitDefEqProofs := false) only [go_sem, ↓stk_g, ↓stk_c, ↓reduceIte, hp_self, hp_hp])
  exact decode15_tail L s out (numR s0) (numR s1) (numR s2) (numR s3) hol h4 hV hasm hsm2 nbr _ (by rfl) (by rfl) (by rfl) (by rfl)
def c_law_MReads : AFn := ⟨1, 36, [2],
  .seq (.ops [⟨(some 2), none, .q (.mv (.const (.bool false)))⟩])
  (.seq (.ops [⟨(some 9), none, .e (.call 5 [])⟩,
      ⟨(some 3), none, .q (.mv (.tmp 9))⟩])
  (.seq (.seq (.ops [⟨(some 10), none, .q (.mv (.tmp 0))⟩,
      ⟨(some 11), none, .q (.len true (.tmp 10))⟩,
      ⟨(some 12), none, .q (.bin .gtr .num (.tmp 11) (.const (.int .i64 8000)))⟩])
  (.cond (.tmp 12)
    (.seq (.ops [⟨(some 13), none, .q (.mv (.tmp 3))⟩,
        ⟨(some 2), none, .q (.mv (.tmp 13))⟩])
    (.ret))
    (.skip)))
  (.seq (.ops [⟨(some 15), none, .q (.mv (.tmp 0))⟩,
      ⟨(some 16), none, .e (.call 11 [(.tmp 15)])⟩,
      ⟨(some 14), none, .q (.mv (.tmp 16))⟩,
      ⟨(some 17), none, .q (.ext (.tmp 14) 0)⟩,
      ⟨(some 18), none, .q (.ext (.tmp 14) 1)⟩,
      ⟨(some 4), none, .e (.alloc 27 [(.int .i64 0), (.int .i64 0), (.int .i64 0), (.int .i64 0), (.slice none 0 0), (.slice none 0 0), (.int .i64 0), (.slice none 0 0), (.slice none 0 0), (.slice none 0 0), (.slice none 0 0), (.slice none 0 0), (.int .i64 0), (.int .i64 0), (.int .i64 0)])⟩,
      ⟨none, none, .e (.st 15 (.tmp 4) (.tmp 17))⟩,
      ⟨(some 5), none, .q (.mv (.tmp 18))⟩])
  (.seq (.ops [⟨(some 20), none, .q (.mv (.tmp 0))⟩,
      ⟨(some 21), none, .e (.call 12 [(.tmp 20)])⟩,
      ⟨(some 19), none, .q (.mv (.tmp 21))⟩,
      ⟨(some 22), none, .q (.ext (.tmp 19) 0)⟩,
      ⟨(some 23), none, .q (.ext (.tmp 19) 1)⟩,
      ⟨(some 6), none, .e (.alloc 27 [(.int .i64 0), (.int .i64 0), (.int .i64 0), (.int .i64 0), (.slice none 0 0), (.slice none 0 0), (.int .i64 0), (.slice none 0 0), (.slice none 0 0), (.slice none 0 0), (.slice none 0 0), (.slice none 0 0), (.int .i64 0), (.int .i64 0), (.int .i64 0)])⟩,
      ⟨none, none, .e (.st 15 (.tmp 6) (.tmp 22))⟩,
      ⟨(some 7), none, .q (.mv (.tmp 23))⟩])
  (.seq (.ops [⟨(some 24), none, .q (.ld true 15 (.tmp 4))⟩,
      ⟨(some 25), none, .q (.ld true 15 (.tmp 6))⟩,
      ⟨(some 26), none, .e (.call 13 [(.tmp 24), (.tmp 25)])⟩,
      ⟨(some 8), none, .q (.mv (.tmp 26))⟩])
  (.seq (.ops [⟨(some 27), none, .q (.mv (.tmp 3))⟩,
      ⟨(some 28), none, .q (.mv (.tmp 27))⟩,
      ⟨(some 29), (some (28, true)), .q (.mv (.tmp 8))⟩,
      ⟨(some 30), none, .q (.pick (.tmp 28) (.tmp 29) (.const (.bool false)))⟩,
      ⟨(some 31), none, .q (.mv (.tmp 30))⟩,
      ⟨(some 32), (some (31, true)), .q (.mv (.tmp 5))⟩,
      ⟨(some 33), (some (31, true)), .q (.mv (.tmp 7))⟩,
      ⟨(some 34), (some (31, true)), .q (.bin .eql .num (.tmp 32) (.tmp 33))⟩,
      ⟨(some 35), none, .q (.pick (.tmp 31) (.tmp 34) (.const (.bool false)))⟩,
      ⟨(some 2), none, .q (.mv (.tmp 35))⟩])
  (.ret))))))), []⟩
theorem k_law_MReads : compF Tryz.prog 4 = some c_law_MReads := by kernel_rfl
set_option maxHeartbeats 8000000 in
theorem mreads_law {W : World} (L : Laid W) (E : Errs W) (s : Str) : ACalls Tryz.prog W 4 [.v (.string s)] AHeap.none fun v _ => v = .v (.bool true) := by
  refine fn_run follows k_law_MReads rfl ?_
  simp only [c_law_MReads, aretC_nil, List.zipIdx_cons, List.zipIdx_nil, List.map_cons, List.map_nil, Nat.zero_add]
  (try simp +decide (implicitDefEqProofs := false) only [go_sem, ↓stk_g, ↓stk_c, ↓reduceIte])
  refine stk_pure (mawake_ok L E) fun v hv => ?_
  subst hv
  by_cases hs : (8000 : Int) < (s.size : Int)
  · (try simp +decide (implicitDefEqProofs := false) only [go_sem, ↓stk_g, ↓stk_c, ↓reduceIte, hs])
    refine aret_pure (.inr rfl) ?_; simp +decide only [retOf, tget, if_true, if_false, ↓reduceIte, List.map_cons, List.map_nil]
  (try simp +decide (implicitDefEqProofs := false) only [go_sem, ↓stk_g, ↓stk_c, ↓reduceIte, hs])
  refine stk_pure (decode_ok L E s (by omega) (hsm_small (by omega))) fun v hv => ?_
  obtain ⟨m, e, hre, F⟩ : ∃ (m : Msg) (e : Int), decodeV s = (m, e) ∧ MFits m := by
    rcases decode_cases s with ⟨m, h1, h2, _⟩ | ⟨e, h, _⟩
    · refine ⟨m, _, h1, ?_⟩
      have R := rightM_facts h2
      refine ⟨by have := R.ids.1; omega, by have := R.posts.1; omega, ?_⟩
      by_cases hk : m.kind = 3
      · exact (right_neat (R.pol hk)).fits
      · rw [R.pol0 hk]; exact (pol0_small 0 0).fits (by omega) (by omega)
    · exact ⟨_, _, h, ⟨Nat.zero_le _, Nat.zero_le _, (pol0_small 0 0).fits (by omega) (by omega)⟩⟩
  rw [hre] at hv
  unfold decodeA at hv
  subst hv
  (try simp +decide (implicitDefEqProofs := false) only [go_sem, ↓stk_g, ↓stk_c, ↓reduceIte])
  rw [stk_alloc]
  intro b1 h1
  (try simp +decide (implicitDefEqProofs := false) only [go_sem, ↓stk_g, ↓stk_c, ↓reduceIte, hp_self, msgCells])
  refine stk_pure (decode15_ok L s (by omega)) fun v hv => ?_
  rw [decodeRV_eq, hre] at hv
  unfold decodeA at hv
  subst hv
  (try simp +decide (implicitDefEqProofs := false) only [go_sem, ↓stk_g, ↓stk_c, ↓reduceIte, msgCells])
  rw [stk_alloc]
  intro b2 h2
  have n2 := new_ne (hp_self _ _ _) h2
  have n2' := n2.symm
  (try simp +decide (implicitDefEqProofs := false) only [go_sem, ↓stk_g, ↓stk_c, ↓reduceIte, hp_self, hp_ne, n2, n2', ne_eq, not_false_eq_true, msgCells])
  refine stk_pure (msame_ok m m F F) fun v hv => ?_
  rw [decide_eq_true (rfl : m = m)] at hv
  subst hv
  have he : decide (e = e) = true := decide_eq_true rfl
  (try simp +decide (implicitDefEqProofs := false) only [go_sem, ↓stk_g, ↓stk_c, ↓reduceIte, he])
  refine aret_pure (.inr rfl) ?_; simp +decide only [retOf, tget, if_true, if_false, ↓reduceIte, List.map_cons, List.map_nil]
end Go.Proofs.YtcplmaffccfbdaaGreatDoor.M
