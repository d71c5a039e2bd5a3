/-
  The message of a text: Decode, walked.
-/
import Derived.Test.YtcplmaffccfbdaaGreatDoorQd
namespace Go.Proofs.YtcplmaffccfbdaaGreatDoor.M
open Go.RowKit
attribute [local go_sem] stk_nil stk_skip stk_ops stk_seq stk_block stk_scope stk_exit stk_ret stk_code_exit stk_code_ret stk_ops_exit stk_ops_ret stk_endb stk_endb_exit stk_endb_ret stk_endl stk_endl_exit stk_endl_ret stk_ops_nil stk_q stk_niq niqA flip srcOf stk_bsl side val bside bval uside uval cside cval bndS bndV intA isInt lside lval fside fval faside faval iside ival sxside sxval sizeA slside slval llside llval lenside lenval lenA tupA mmside mmval nkside boolA isBool ev_t ev_c tget put_s put_n lkside lkval menval stk_mk Option.isSome_some isMapA mapA keyA FZ_rfl FZ_any retOf true_and and_true if_true if_false decide_true decide_false Bool.not_true Bool.not_false Nat.zero_add List.map_cons List.map_nil Int.toNat_natCast strRows_len intRows_len List.getD_cons_zero List.getD_cons_succ List.length_cons List.length_nil List.forall_mem_cons List.not_mem_nil false_implies implies_true Int.ofNat_zero Int.natCast_add Int.natCast_one Int.ofNat_one Int.natCast_zero isB isU Bool.false_eq_true beq_self_eq_true Bool.false_beq Bool.true_beq Int.natCast_nonneg undef strRows_take strRows_drop Int.toNat_zero List.drop_zero Bool.and_true oneOr List.all_cons List.all_nil AVal.one Value.oneCell' Bool.true_and List.take_length stk_st' stside stH hp_self hp_hp isnside isnval lay List.take_succ_cons List.take_zero List.drop_succ_cons List.nil_append List.cons_append Option.getD_some List.append_nil and_self
set_option linter.unusedVariables false
set_option linter.unusedSimpArgs false
abbrev TM : TypeId := 27
abbrev nilS : AVal := .v (.slice none 0 0)
abbrev zero15 : List AVal := [.v (.int .i64 0), .v (.int .i64 0), .v (.int .i64 0), .v (.int .i64 0), .v (.slice none 0 0), .v (.slice none 0 0), .v (.int .i64 0), .v (.slice none 0 0), .v (.slice none 0 0), .v (.slice none 0 0), .v (.slice none 0 0), .v (.slice none 0 0), .v (.int .i64 0), .v (.int .i64 0), .v (.int .i64 0)]
def msgX (m : Msg) (x4 x5 y1 y2 y3 y4 y5 : AVal) : List AVal := [.v (.int .i64 m.kind), .v (.int .i64 m.frm), .v (.int .i64 m.dst), .v (.int .i64 m.epoch), x4, x5, .v (.int .i64 m.pol.epoch), y1, y2, y3, y4, y5, .v (.int .i64 m.pol.depth), .v (.int .i64 m.pol.nodes), .v (.int .i64 m.pol.bytes)]
theorem FZ.msgX {H H' : AHeap} {m : Msg} {x4 x5 y1 y2 y3 y4 y5 : AVal} (h4 : FZ H H' x4 (.sl false 1 (strRows m.ids))) (h5 : FZ H H' x5 (.sl false 2 (postRows m.posts))) (k1 : FZ H H' y1 (.sl false 1 (strRows m.pol.elems))) (k2 : FZ H H' y2 (.sl false 1 (strRows m.pol.attrs))) (k3 : FZ H H' y3 (.sl false 1 (strRows m.pol.schemes))) (k4 : FZ H H' y4 (.sl false 1 (strRows m.pol.classes))) (k5 : FZ H H' y5 (.sl false 1 (strRows m.pol.props))) :
    ∀ j (hj : j < (M.msgX m x4 x5 y1 y2 y3 y4 y5).length) (hj' : j < (msgCells m).length), FZ H H' (M.msgX m x4 x5 y1 y2 y3 y4 y5)[j] (msgCells m)[j] := fun j hj hj' => by
  rcases j with _ | _ | _ | _ | _ | _ | _ | _ | _ | _ | _ | _ | _ | _ | _ | j
  · exact .refl _
  · exact .refl _
  · exact .refl _
  · exact .refl _
  · exact h4
  · exact h5
  · exact .refl _
  · exact k1
  · exact k2
  · exact k3
  · exact k4
  · exact k5
  · exact .refl _
  · exact .refl _
  · exact .refl _
  · simp [M.msgX] at hj; omega
theorem msgCells_one (m : Msg) : ∀ j (hj : j < (msgCells m).length), (msgCells m)[j].one = true := fun j hj => by
  rcases j with _ | _ | _ | _ | _ | _ | _ | _ | _ | _ | _ | _ | _ | _ | _ | j
  all_goals first | rfl | (simp [msgCells] at hj; omega)
theorem FZ.zeroM {H H' : AHeap} : FZ H H' (.agg zero15) (.agg (msgCells msg0)) := .agg rfl (msgCells_one _) (FZ.msgX (m := msg0) (.nil 1) (.nil 2) (.nil 1) (.nil 1) (.nil 1) (.nil 1) (.nil 1))
theorem sub_one {H : AHeap} {r : Nat} {o : AObj} (hr : H r = some o) : Sub (AHeap.none.put r o) H := fun c x h => by
  simp only [AHeap.put] at h
  split at h
  · rename_i e; subst e; rw [hr]; exact h
  · cases h
theorem sub_two {H : AHeap} {r b : Nat} {o o' : AObj} (hr : H r = some o) (hb : H b = some o') : Sub ((AHeap.none.put r o).put b o') H := fun c x h => by
  simp only [AHeap.put] at h
  split at h
  · rename_i e; subst e; rw [hb]; exact h
  · split at h
    · rename_i e; subst e; rw [hr]; exact h
    · cases h
theorem two_none {r b g : Nat} {o o' : AObj} (h1 : g ≠ r) (h2 : g ≠ b) : ((AHeap.none.put r o).put b o') g = none := by
  rw [hp_ne _ _ h2, hp_ne _ _ h1]; rfl
theorem one_none {r g : Nat} {o : AObj} (h1 : g ≠ r) : (AHeap.none.put r o) g = none := by
  rw [hp_ne _ _ h1]; rfl
theorem pairs_len : ∀ (l : List Str), (pairsP l).length ≤ l.length
  | [] => Nat.zero_le _
  | [_] => Nat.zero_le _
  | a :: b :: l => by
    show (pairsP l).length + 1 ≤ _
    have := pairs_len l
    simp only [List.length_cons]; omega
theorem drop_two {l : List Str} {i : Nat} (h : 1 < l.length) : l = l.getD 0 ByteArray.empty :: l.getD 1 ByteArray.empty :: l.drop 2 := by
  match l, h with
  | a :: b :: l, _ => rfl
theorem pairs_short {l : List Str} (h : ¬ 1 < l.length) : pairsP l = [] := by
  match l, h with
  | [], _ => rfl
  | [_], _ => rfl
  | _ :: _ :: _, h => simp at h
def c_Decode_t : ACode := (.seq (.ops [⟨(some 51), none, .q (.mv (.tmp 4))⟩,
      ⟨(some 52), none, .q (.lsl 1 (.tmp 51) (some (.const (.int .i64 4))) none none)⟩,
      ⟨(some 4), none, .q (.mv (.tmp 52))⟩])
  (.seq (.block 2 (.seq (.ops [⟨(some 54), none, .q (.fad 0 1 (.tmp 9))⟩,
        ⟨(some 55), none, .q (.ld false 1 (.tmp 54))⟩,
        ⟨(some 56), none, .q (.bin .eql .num (.tmp 55) (.const (.int .i64 3)))⟩,
        ⟨(some 57), none, .q (.mv (.tmp 56))⟩,
        ⟨(some 58), (some (57, true)), .q (.mv (.tmp 4))⟩,
        ⟨(some 59), (some (57, true)), .q (.len false (.tmp 58))⟩,
        ⟨(some 60), (some (57, true)), .q (.bin .eql .num (.tmp 59) (.const (.int .i64 1)))⟩,
        ⟨(some 61), none, .q (.pick (.tmp 57) (.tmp 60) (.const (.bool false)))⟩,
        ⟨(some 53), none, .q (.mv (.tmp 61))⟩])
    (.cond (.tmp 53)
      (.ops [⟨(some 63), none, .q (.mv (.tmp 4))⟩,
          ⟨(some 64), none, .q (.ixa 1 (.tmp 63) (.const (.int .i64 0)))⟩,
          ⟨(some 65), none, .q (.ld false 1 (.tmp 64))⟩,
          ⟨(some 66), none, .e (.call 29 [(.tmp 65)])⟩,
          ⟨(some 62), none, .q (.mv (.tmp 66))⟩,
          ⟨(some 67), none, .q (.ext (.tmp 62) 0)⟩,
          ⟨(some 68), none, .q (.ext (.tmp 62) 1)⟩,
          ⟨(some 69), none, .q (.fad 6 9 (.tmp 9))⟩,
          ⟨none, none, .e (.st 9 (.tmp 69) (.tmp 67))⟩])
      (.seq (.ops [⟨(some 71), none, .q (.fad 0 1 (.tmp 9))⟩,
          ⟨(some 72), none, .q (.ld false 1 (.tmp 71))⟩,
          ⟨(some 73), none, .q (.bin .eql .num (.tmp 72) (.const (.int .i64 1)))⟩,
          ⟨(some 74), none, .q (.mv (.tmp 73))⟩,
          ⟨(some 75), (some (74, true)), .q (.mv (.tmp 4))⟩,
          ⟨(some 76), (some (74, true)), .q (.len false (.tmp 75))⟩,
          ⟨(some 77), (some (74, true)), .q (.bin .gtr .num (.tmp 76) (.const (.int .i64 0)))⟩,
          ⟨(some 78), none, .q (.pick (.tmp 74) (.tmp 77) (.const (.bool false)))⟩,
          ⟨(some 70), none, .q (.mv (.tmp 78))⟩])
      (.cond (.tmp 70)
        (.ops [⟨(some 79), none, .q (.mv (.tmp 4))⟩,
            ⟨(some 80), none, .q (.lsl 1 (.tmp 79) (some (.const (.int .i64 1))) none none)⟩,
            ⟨(some 81), none, .q (.fad 4 1 (.tmp 9))⟩,
            ⟨none, none, .e (.st 1 (.tmp 81) (.tmp 80))⟩])
        (.seq (.ops [⟨(some 83), none, .q (.fad 0 1 (.tmp 9))⟩,
            ⟨(some 84), none, .q (.ld false 1 (.tmp 83))⟩,
            ⟨(some 85), none, .q (.bin .eql .num (.tmp 84) (.const (.int .i64 2)))⟩,
            ⟨(some 86), none, .q (.mv (.tmp 85))⟩,
            ⟨(some 87), (some (86, true)), .q (.mv (.tmp 4))⟩,
            ⟨(some 88), (some (86, true)), .q (.len false (.tmp 87))⟩,
            ⟨(some 89), (some (86, true)), .q (.bin .gtr .num (.tmp 88) (.const (.int .i64 0)))⟩,
            ⟨(some 90), none, .q (.pick (.tmp 86) (.tmp 89) (.const (.bool false)))⟩,
            ⟨(some 82), none, .q (.mv (.tmp 90))⟩])
        (.cond (.tmp 82)
          (.seq (.ops [⟨(some 91), none, .q (.mv (.tmp 4))⟩,
              ⟨(some 92), none, .q (.lsl 1 (.tmp 91) (some (.const (.int .i64 1))) none none)⟩,
              ⟨(some 4), none, .q (.mv (.tmp 92))⟩])
          (.block 3 (.loop (.seq (.seq (.ops [⟨(some 93), none, .q (.mv (.tmp 4))⟩,
                  ⟨(some 94), none, .q (.len false (.tmp 93))⟩,
                  ⟨(some 95), none, .q (.bin .gtr .num (.tmp 94) (.const (.int .i64 1)))⟩])
              (.cond (.tmp 95)
                (.skip)
                (.exit 3)))
              (.seq (.block 4 (.ops [⟨(some 98), none, .q (.fad 5 1 (.tmp 9))⟩,
                    ⟨(some 99), none, .q (.ld false 1 (.tmp 98))⟩,
                    ⟨(some 100), none, .q (.mv (.tmp 4))⟩,
                    ⟨(some 101), none, .q (.ixa 1 (.tmp 100) (.const (.int .i64 0)))⟩,
                    ⟨(some 102), none, .q (.ld false 1 (.tmp 101))⟩,
                    ⟨(some 103), none, .q (.mv (.tmp 4))⟩,
                    ⟨(some 104), none, .q (.ixa 1 (.tmp 103) (.const (.int .i64 1)))⟩,
                    ⟨(some 105), none, .q (.ld false 1 (.tmp 104))⟩,
                    ⟨(some 106), none, .q (.bld [(.string ByteArray.empty), (.string ByteArray.empty)] [(0, 1, (.tmp 102)), (1, 1, (.tmp 105))])⟩,
                    ⟨(some 107), none, .e (.bsl 38 2 [(.tmp 106)])⟩,
                    ⟨(some 108), none, .e (.app 38 2 32 false (.tmp 99) (.tmp 107))⟩,
                    ⟨(some 109), none, .q (.fad 5 1 (.tmp 9))⟩,
                    ⟨none, none, .e (.st 1 (.tmp 109) (.tmp 108))⟩]))
              (.ops [⟨(some 96), none, .q (.mv (.tmp 4))⟩,
                  ⟨(some 97), none, .q (.lsl 1 (.tmp 96) (some (.const (.int .i64 2))) none none)⟩,
                  ⟨(some 4), none, .q (.mv (.tmp 97))⟩]))))))
          (.skip))))))))
  (.seq (.seq (.ops [⟨(some 111), none, .q (.ld true 15 (.tmp 9))⟩,
      ⟨(some 112), none, .e (.call 7 [(.tmp 111)])⟩,
      ⟨(some 110), none, .q (.mv (.tmp 112))⟩,
      ⟨(some 113), none, .q (.ext (.tmp 110) 0)⟩,
      ⟨(some 114), none, .q (.ext (.tmp 110) 1)⟩,
      ⟨(some 10), none, .q (.mv (.tmp 113))⟩,
      ⟨(some 11), none, .q (.mv (.tmp 114))⟩])
  (.seq (.ops [⟨(some 115), none, .q (.mv (.tmp 11))⟩,
      ⟨(some 116), none, .q (.bin .neq .num (.tmp 115) (.const (.int .i64 0)))⟩,
      ⟨(some 117), none, .q (.mv (.tmp 116))⟩,
      ⟨(some 118), (some (117, false)), .q (.mv (.tmp 10))⟩,
      ⟨(some 119), (some (117, false)), .q (.mv (.tmp 0))⟩,
      ⟨(some 120), (some (117, false)), .q (.bin .neq .num (.tmp 118) (.tmp 119))⟩,
      ⟨(some 121), none, .q (.pick (.tmp 117) (.const (.bool true)) (.tmp 120))⟩])
  (.cond (.tmp 121)
    (.seq (.ops [⟨(some 122), none, .q (.bld [(.int .i64 0), (.int .i64 0), (.int .i64 0), (.int .i64 0), (.slice none 0 0), (.slice none 0 0), (.int .i64 0), (.slice none 0 0), (.slice none 0 0), (.slice none 0 0), (.slice none 0 0), (.slice none 0 0), (.int .i64 0), (.int .i64 0), (.int .i64 0)] [])⟩,
        ⟨none, none, .e (.st 15 (.tmp 2) (.tmp 122))⟩,
        ⟨(some 3), none, .q (.mv (.const (.int .i64 2)))⟩])
    (.ret))
    (.skip))))
  (.seq (.ops [⟨(some 123), none, .q (.ld true 15 (.tmp 9))⟩,
      ⟨none, none, .e (.st 15 (.tmp 2) (.tmp 123))⟩,
      ⟨(some 3), none, .q (.mv (.const (.int .i64 0)))⟩])
  (.ret)))))
def c_Decode : AFn := ⟨1, 124, [124, 3],
  .seq (.ops [⟨(some 2), none, .e (.alloc 27 [(.int .i64 0), (.int .i64 0), (.int .i64 0), (.int .i64 0), (.slice none 0 0), (.slice none 0 0), (.int .i64 0), (.slice none 0 0), (.slice none 0 0), (.slice none 0 0), (.slice none 0 0), (.slice none 0 0), (.int .i64 0), (.int .i64 0), (.int .i64 0)])⟩,
      ⟨(some 3), none, .q (.mv (.const (.int .i64 0)))⟩])
  (.seq (.ops [⟨(some 4), none, .q (.mv (.const (.slice none 0 0)))⟩])
  (.seq (.seq (.ops [⟨(some 12), none, .q (.mv (.tmp 0))⟩,
      ⟨(some 5), none, .q (.mv (.tmp 12))⟩])
  (.block 0 (.loop (.seq (.seq (.ops [⟨(some 13), none, .q (.mv (.tmp 5))⟩,
          ⟨(some 14), none, .q (.bin .neq .num (.tmp 13) (.const (.string ByteArray.empty)))⟩])
      (.cond (.tmp 14)
        (.skip)
        (.exit 0)))
      (.block 1 (.seq (.ops [⟨(some 16), none, .q (.mv (.tmp 5))⟩,
            ⟨(some 17), none, .e (.call 27 [(.tmp 16)])⟩,
            ⟨(some 15), none, .q (.mv (.tmp 17))⟩,
            ⟨(some 18), none, .q (.ext (.tmp 15) 0)⟩,
            ⟨(some 19), none, .q (.ext (.tmp 15) 1)⟩,
            ⟨(some 20), none, .q (.ext (.tmp 15) 2)⟩,
            ⟨(some 6), none, .q (.mv (.tmp 18))⟩,
            ⟨(some 7), none, .q (.mv (.tmp 19))⟩,
            ⟨(some 8), none, .q (.mv (.tmp 20))⟩])
        (.seq (.seq (.ops [⟨(some 21), none, .q (.mv (.tmp 8))⟩,
            ⟨(some 22), none, .q (.bin .neq .num (.tmp 21) (.const (.int .i64 0)))⟩])
        (.cond (.tmp 22)
          (.seq (.ops [⟨(some 23), none, .q (.bld [(.int .i64 0), (.int .i64 0), (.int .i64 0), (.int .i64 0), (.slice none 0 0), (.slice none 0 0), (.int .i64 0), (.slice none 0 0), (.slice none 0 0), (.slice none 0 0), (.slice none 0 0), (.slice none 0 0), (.int .i64 0), (.int .i64 0), (.int .i64 0)] [])⟩,
              ⟨(some 24), none, .q (.mv (.tmp 8))⟩,
              ⟨none, none, .e (.st 15 (.tmp 2) (.tmp 23))⟩,
              ⟨(some 3), none, .q (.mv (.tmp 24))⟩])
          (.ret))
          (.skip)))
        (.seq (.ops [⟨(some 25), none, .q (.mv (.tmp 4))⟩,
            ⟨(some 26), none, .q (.mv (.tmp 6))⟩,
            ⟨(some 27), none, .e (.bsl 9 1 [(.tmp 26)])⟩,
            ⟨(some 28), none, .e (.app 9 1 16 false (.tmp 25) (.tmp 27))⟩,
            ⟨(some 4), none, .q (.mv (.tmp 28))⟩])
        (.ops [⟨(some 29), none, .q (.mv (.tmp 7))⟩,
            ⟨(some 5), none, .q (.mv (.tmp 29))⟩])))))))))
  (.seq (.seq (.ops [⟨(some 30), none, .q (.mv (.tmp 4))⟩,
      ⟨(some 31), none, .q (.len false (.tmp 30))⟩,
      ⟨(some 32), none, .q (.bin .lss .num (.tmp 31) (.const (.int .i64 4)))⟩])
  (.cond (.tmp 32)
    (.seq (.ops [⟨(some 33), none, .q (.bld [(.int .i64 0), (.int .i64 0), (.int .i64 0), (.int .i64 0), (.slice none 0 0), (.slice none 0 0), (.int .i64 0), (.slice none 0 0), (.slice none 0 0), (.slice none 0 0), (.slice none 0 0), (.slice none 0 0), (.int .i64 0), (.int .i64 0), (.int .i64 0)] [])⟩,
        ⟨none, none, .e (.st 15 (.tmp 2) (.tmp 33))⟩,
        ⟨(some 3), none, .q (.mv (.const (.int .i64 2)))⟩])
    (.ret))
    (.skip)))
  (.seq (.seq (.ops [⟨(some 34), none, .q (.mv (.tmp 4))⟩,
      ⟨(some 35), none, .q (.ixa 1 (.tmp 34) (.const (.int .i64 0)))⟩,
      ⟨(some 36), none, .q (.ld false 1 (.tmp 35))⟩,
      ⟨(some 38), none, .q (.mv (.tmp 4))⟩,
      ⟨(some 39), none, .q (.ixa 1 (.tmp 38) (.const (.int .i64 1)))⟩,
      ⟨(some 40), none, .q (.ld false 1 (.tmp 39))⟩,
      ⟨(some 42), none, .q (.mv (.tmp 4))⟩,
      ⟨(some 43), none, .q (.ixa 1 (.tmp 42) (.const (.int .i64 2)))⟩,
      ⟨(some 44), none, .q (.ld false 1 (.tmp 43))⟩,
      ⟨(some 46), none, .q (.mv (.tmp 4))⟩,
      ⟨(some 47), none, .q (.ixa 1 (.tmp 46) (.const (.int .i64 3)))⟩,
      ⟨(some 48), none, .q (.ld false 1 (.tmp 47))⟩])
  (.both (.seq (.ops [⟨(some 37), none, .e (.callq 28 [(.tmp 36)])⟩])
    (.both (.seq (.ops [⟨(some 41), none, .e (.callq 28 [(.tmp 40)])⟩])
      (.both (.seq (.ops [⟨(some 45), none, .e (.callq 28 [(.tmp 44)])⟩])
        (.both (.ops [⟨(some 49), none, .e (.call 28 [(.tmp 48)])⟩,
              ⟨(some 50), none, .q (.bld [(.int .i64 0), (.int .i64 0), (.int .i64 0), (.int .i64 0), (.slice none 0 0), (.slice none 0 0), (.int .i64 0), (.slice none 0 0), (.slice none 0 0), (.slice none 0 0), (.slice none 0 0), (.slice none 0 0), (.int .i64 0), (.int .i64 0), (.int .i64 0)] [(0, 1, (.tmp 37)), (1, 1, (.tmp 41)), (2, 1, (.tmp 45)), (3, 1, (.tmp 49))])⟩,
              ⟨(some 9), none, .e (.alloc 27 [(.int .i64 0), (.int .i64 0), (.int .i64 0), (.int .i64 0), (.slice none 0 0), (.slice none 0 0), (.int .i64 0), (.slice none 0 0), (.slice none 0 0), (.slice none 0 0), (.slice none 0 0), (.slice none 0 0), (.int .i64 0), (.int .i64 0), (.int .i64 0)])⟩,
              ⟨none, none, .e (.st 15 (.tmp 9) (.tmp 50))⟩])
        (.ops [⟨(some 9), none, .e (.alloc 27 [(.int .i64 0), (.int .i64 0), (.int .i64 0), (.int .i64 0), (.slice none 0 0), (.slice none 0 0), (.int .i64 0), (.slice none 0 0), (.slice none 0 0), (.slice none 0 0), (.slice none 0 0), (.slice none 0 0), (.int .i64 0), (.int .i64 0), (.int .i64 0)])⟩,
              ⟨(some 49), none, .e (.call 28 [(.tmp 48)])⟩,
              ⟨(some 50), none, .q (.bld [(.int .i64 0), (.int .i64 0), (.int .i64 0), (.int .i64 0), (.slice none 0 0), (.slice none 0 0), (.int .i64 0), (.slice none 0 0), (.slice none 0 0), (.slice none 0 0), (.slice none 0 0), (.slice none 0 0), (.int .i64 0), (.int .i64 0), (.int .i64 0)] [(0, 1, (.tmp 37)), (1, 1, (.tmp 41)), (2, 1, (.tmp 45)), (3, 1, (.tmp 49))])⟩,
              ⟨none, none, .e (.st 15 (.tmp 9) (.tmp 50))⟩])))
      (.ops [⟨(some 9), none, .e (.alloc 27 [(.int .i64 0), (.int .i64 0), (.int .i64 0), (.int .i64 0), (.slice none 0 0), (.slice none 0 0), (.int .i64 0), (.slice none 0 0), (.slice none 0 0), (.slice none 0 0), (.slice none 0 0), (.slice none 0 0), (.int .i64 0), (.int .i64 0), (.int .i64 0)])⟩,
            ⟨(some 45), none, .e (.callq 28 [(.tmp 44)])⟩,
            ⟨(some 49), none, .e (.call 28 [(.tmp 48)])⟩,
            ⟨(some 50), none, .q (.bld [(.int .i64 0), (.int .i64 0), (.int .i64 0), (.int .i64 0), (.slice none 0 0), (.slice none 0 0), (.int .i64 0), (.slice none 0 0), (.slice none 0 0), (.slice none 0 0), (.slice none 0 0), (.slice none 0 0), (.int .i64 0), (.int .i64 0), (.int .i64 0)] [(0, 1, (.tmp 37)), (1, 1, (.tmp 41)), (2, 1, (.tmp 45)), (3, 1, (.tmp 49))])⟩,
            ⟨none, none, .e (.st 15 (.tmp 9) (.tmp 50))⟩])))
    (.ops [⟨(some 9), none, .e (.alloc 27 [(.int .i64 0), (.int .i64 0), (.int .i64 0), (.int .i64 0), (.slice none 0 0), (.slice none 0 0), (.int .i64 0), (.slice none 0 0), (.slice none 0 0), (.slice none 0 0), (.slice none 0 0), (.slice none 0 0), (.int .i64 0), (.int .i64 0), (.int .i64 0)])⟩,
          ⟨(some 41), none, .e (.callq 28 [(.tmp 40)])⟩,
          ⟨(some 45), none, .e (.callq 28 [(.tmp 44)])⟩,
          ⟨(some 49), none, .e (.call 28 [(.tmp 48)])⟩,
          ⟨(some 50), none, .q (.bld [(.int .i64 0), (.int .i64 0), (.int .i64 0), (.int .i64 0), (.slice none 0 0), (.slice none 0 0), (.int .i64 0), (.slice none 0 0), (.slice none 0 0), (.slice none 0 0), (.slice none 0 0), (.slice none 0 0), (.int .i64 0), (.int .i64 0), (.int .i64 0)] [(0, 1, (.tmp 37)), (1, 1, (.tmp 41)), (2, 1, (.tmp 45)), (3, 1, (.tmp 49))])⟩,
          ⟨none, none, .e (.st 15 (.tmp 9) (.tmp 50))⟩])))
  (.ops [⟨(some 9), none, .e (.alloc 27 [(.int .i64 0), (.int .i64 0), (.int .i64 0), (.int .i64 0), (.slice none 0 0), (.slice none 0 0), (.int .i64 0), (.slice none 0 0), (.slice none 0 0), (.slice none 0 0), (.slice none 0 0), (.slice none 0 0), (.int .i64 0), (.int .i64 0), (.int .i64 0)])⟩,
        ⟨(some 37), none, .e (.callq 28 [(.tmp 36)])⟩,
        ⟨(some 41), none, .e (.callq 28 [(.tmp 40)])⟩,
        ⟨(some 45), none, .e (.callq 28 [(.tmp 44)])⟩,
        ⟨(some 49), none, .e (.call 28 [(.tmp 48)])⟩,
        ⟨(some 50), none, .q (.bld [(.int .i64 0), (.int .i64 0), (.int .i64 0), (.int .i64 0), (.slice none 0 0), (.slice none 0 0), (.int .i64 0), (.slice none 0 0), (.slice none 0 0), (.slice none 0 0), (.slice none 0 0), (.slice none 0 0), (.int .i64 0), (.int .i64 0), (.int .i64 0)] [(0, 1, (.tmp 37)), (1, 1, (.tmp 41)), (2, 1, (.tmp 45)), (3, 1, (.tmp 49))])⟩,
        ⟨none, none, .e (.st 15 (.tmp 9) (.tmp 50))⟩])))
  c_Decode_t)))), [(124, (2, (true, 15)))]⟩
theorem k_Decode : compF Tryz.prog 11 = some c_Decode := by kernel_rfl
set_option maxHeartbeats 32000000 in
theorem decode_tail {W : World} (L : Laid W) (E : Errs W) (s : Str) (out : List Str) (k0 n1 n2 n3 : Int) (hol : out.length ≤ 1000000) (h4 : ¬ out.length < 4) (hV2 : decodeV s = if rightM (assembleM out) = true ∧ msgT (assembleM out) = s then (assembleM out, 0) else (msg0, 2)) (hasm : assembleM out = withM ⟨k0, n1, n2, n3, [], [], pol0⟩ (out.drop 4)) (hsm2 : k0 = 3 → (out.drop 4).length = 1 → ((out.drop 4).getD 0 ByteArray.empty).size ≤ 19000) {r b : Nat} (nbr : b ≠ r)
    (tm : List (Nat × AVal)) (tm0 : tget tm 0 = .v (.string s)) (tm2 : tget tm 2 = .v (.pointer (some ⟨r, 0, none⟩))) (tm4 : tget tm 4 = .sl false 1 (strRows out)) (tm9 : tget tm 9 = .v (.pointer (some ⟨b, 0, none⟩))) :
    stk Tryz.prog W [.code c_Decode_t] (aretC [(124, 2, true, 15)] [124, 3] fun v _ => v = decodeA (decodeV s)) .normal ⟨tm, (AHeap.none.put r (.cells TM zero15)).put b (.cells TM [.v (.int .i64 k0), .v (.int .i64 n1), .v (.int .i64 n2), .v (.int .i64 n3), nilS, nilS, .v (.int .i64 0), nilS, nilS, nilS, nilS, nilS, .v (.int .i64 0), .v (.int .i64 0), .v (.int .i64 0)])⟩ := by
  have nrb : r ≠ b := nbr.symm
  have b4 : (4 : Int) ≤ (out.length : Int) := by omega
  have t4 : (4 : Int).toNat = 4 := rfl
  have t1 : (1 : Int).toNat = 1 := rfl
  have t2 : (2 : Int).toNat = 2 := rfl
  simp only [c_Decode_t]
  have hdl : (out.drop 4).length = out.length - 4 := List.length_drop
  have hll : (out.drop 4).length ≤ 1000000 := by omega
  generalize hl : out.drop 4 = l at hasm hsm2 hdl hll
  by_cases k3 : k0 = 3
  · have e3 : decide (k0 = 3) = true := decide_eq_true k3
    have e1 : decide (k0 = 1) = false := decide_eq_false (by omega)
    have e2 : decide (k0 = 2) = false := decide_eq_false (by omega)
    by_cases l1 : l.length = 1
    · have f1 : decide ((l.length : Int) = 1) = true := decide_eq_true (by omega)
      have j0 : 0 < l.length := by omega
      have j1 : (0 : Int) < (l.length : Int) := by omega
      have u0 := strRows_get j0
      (try simp +decide (implicitDefEqProofs := false) only [go_sem, ↓stk_g, ↓stk_c, ↓reduceIte, tm0, tm2, tm4, tm9, hp_self, hp_hp, hp_ne, nrb, nbr, ne_eq, not_false_eq_true, t4, b4, hl, Int.le_refl, e3, f1, j0, j1, u0])
      refine stk_pure (read_ok L E (l.getD 0 ByteArray.empty) (hsm2 k3 l1)) fun v hv => ?_
      obtain ⟨ee, hre⟩ := readR_pol (l.getD 0 ByteArray.empty)
      rw [hre] at hv
      subst hv
      have hpf := readPol_fits (l.getD 0 ByteArray.empty)
      replace hasm : assembleM out = (Msg.mk k0 n1 n2 n3 [] [] (readPol (l.getD 0 ByteArray.empty))) := by rw [hasm]; unfold withM; dsimp only; rw [if_pos ⟨k3, l1⟩]
      generalize readPol (l.getD 0 ByteArray.empty) = p1 at hpf hasm
      (try simp +decide (implicitDefEqProofs := false) only [go_sem, ↓stk_g, ↓stk_c, ↓reduceIte, tm0, tm2, tm4, tm9, hp_self, hp_hp, polCells])
      have hr9 := (hp_ne (AHeap.none.put r (.cells TM zero15)) (.cells TM (msgX (Msg.mk k0 n1 n2 n3 [] [] p1) nilS nilS (.sl false 1 (strRows p1.elems)) (.sl false 1 (strRows p1.attrs)) (.sl false 1 (strRows p1.schemes)) (.sl false 1 (strRows p1.classes)) (.sl false 1 (strRows p1.props)))) nrb).trans (hp_self _ _ _)
      have hhere := hp_self (AHeap.none.put r (.cells TM zero15)) b (.cells TM (msgX (Msg.mk k0 n1 n2 n3 [] [] p1) nilS nilS (.sl false 1 (strRows p1.elems)) (.sl false 1 (strRows p1.attrs)) (.sl false 1 (strRows p1.schemes)) (.sl false 1 (strRows p1.classes)) (.sl false 1 (strRows p1.props))))
      (try simp +decide (implicitDefEqProofs := false) only [go_sem, ↓stk_g, ↓stk_c, ↓reduceIte, tm0, tm2, tm4, tm9, hp_self])
      have hfit : MFits (Msg.mk k0 n1 n2 n3 [] [] p1) := ⟨Nat.zero_le _, Nat.zero_le _, hpf⟩
      refine stk_pureW ⟨[(111, .agg (msgCells (Msg.mk k0 n1 n2 n3 [] [] p1))), (9, .pl (msgCells (Msg.mk k0 n1 n2 n3 [] [] p1))), (2, .v (.pointer (some ⟨r, 0, none⟩))), (0, .v (.string s))], AHeap.none.put r (.cells TM zero15)⟩ (Weak.list _ (sub_one hr9) ?_) (encode_ok L (Msg.mk k0 n1 n2 n3 [] [] p1) hfit) fun v hv => ?_
      · (try simp +decide (implicitDefEqProofs := false) only [go_sem, ↓stk_g, ↓stk_c, ↓reduceIte, tm0, tm2, tm4, tm9])
        exact ⟨.agg rfl (msgCells_one _) (FZ.msgX (m := (Msg.mk k0 n1 n2 n3 [] [] p1)) (.nil 1) (.nil 2) (.refl _) (.refl _) (.refl _) (.refl _) (.refl _)), .cells hhere (one_none nbr) rfl (FZ.msgX (m := (Msg.mk k0 n1 n2 n3 [] [] p1)) (.nil 1) (.nil 2) (.refl _) (.refl _) (.refl _) (.refl _) (.refl _))⟩
      subst hv
      clear hhere hr9
      rw [hasm] at hV2
      unfold encR
      cases hrt : rightM (Msg.mk k0 n1 n2 n3 [] [] p1)
      · rw [if_neg (fun h => by rw [hrt] at h; exact absurd h.1 (by simp))] at hV2
        (try simp +decide (implicitDefEqProofs := false) only [go_sem, ↓stk_g, ↓stk_c, ↓reduceIte, tm0, tm2, tm4, tm9])
        refine aretC_one (by (try simp +decide (implicitDefEqProofs := false) only [go_sem, ↓stk_g, ↓stk_c, ↓reduceIte, tm0, tm2, tm4, tm9, hp_self])) ?_
        (try simp +decide (implicitDefEqProofs := false) only [go_sem, ↓stk_g, ↓stk_c, ↓reduceIte, tm0, tm2, tm4, tm9, hp_self])
        exact ⟨.inr rfl, AHeap.none, _, Sub.none _, .tup2 .zeroM (.refl _), by rw [hV2]; rfl⟩
      by_cases hte : msgT (Msg.mk k0 n1 n2 n3 [] [] p1) = s
      · have h1 : decide (msgT (Msg.mk k0 n1 n2 n3 [] [] p1) ≠ s) = false := decide_eq_false (fun h => h hte)
        rw [if_pos ⟨hrt, hte⟩] at hV2
        (try simp +decide (implicitDefEqProofs := false) only [go_sem, ↓stk_g, ↓stk_c, ↓reduceIte, tm0, tm2, tm4, tm9, h1, msgCells])
        refine aretC_one (by (try simp +decide (implicitDefEqProofs := false) only [go_sem, ↓stk_g, ↓stk_c, ↓reduceIte, tm0, tm2, tm4, tm9, hp_self])) ?_
        (try simp +decide (implicitDefEqProofs := false) only [go_sem, ↓stk_g, ↓stk_c, ↓reduceIte, tm0, tm2, tm4, tm9, hp_self])
        exact ⟨.inr rfl, AHeap.none, _, Sub.none _, .refl _, by rw [hV2]; rfl⟩
      · have h1 : decide (msgT (Msg.mk k0 n1 n2 n3 [] [] p1) ≠ s) = true := decide_eq_true hte
        rw [if_neg (fun h => hte h.2)] at hV2
        (try simp +decide (implicitDefEqProofs := false) only [go_sem, ↓stk_g, ↓stk_c, ↓reduceIte, tm0, tm2, tm4, tm9, h1, msgCells])
        refine aretC_one (by (try simp +decide (implicitDefEqProofs := false) only [go_sem, ↓stk_g, ↓stk_c, ↓reduceIte, tm0, tm2, tm4, tm9, hp_self])) ?_
        (try simp +decide (implicitDefEqProofs := false) only [go_sem, ↓stk_g, ↓stk_c, ↓reduceIte, tm0, tm2, tm4, tm9, hp_self])
        exact ⟨.inr rfl, AHeap.none, _, Sub.none _, .tup2 .zeroM (.refl _), by rw [hV2]; rfl⟩
    · have f1 : decide ((l.length : Int) = 1) = false := decide_eq_false (by omega)
      replace hasm : assembleM out = (Msg.mk k0 n1 n2 n3 [] [] pol0) := by rw [hasm]; unfold withM; dsimp only; rw [if_neg (fun h => l1 h.2), if_neg (fun h => by omega), if_neg (fun h => by omega)]
      have hr9 := (hp_ne (AHeap.none.put r (.cells TM zero15)) (.cells TM [.v (.int .i64 k0), .v (.int .i64 n1), .v (.int .i64 n2), .v (.int .i64 n3), nilS, nilS, .v (.int .i64 0), nilS, nilS, nilS, nilS, nilS, .v (.int .i64 0), .v (.int .i64 0), .v (.int .i64 0)]) nrb).trans (hp_self _ _ _)
      have hhere := hp_self (AHeap.none.put r (.cells TM zero15)) b (.cells TM [.v (.int .i64 k0), .v (.int .i64 n1), .v (.int .i64 n2), .v (.int .i64 n3), nilS, nilS, .v (.int .i64 0), nilS, nilS, nilS, nilS, nilS, .v (.int .i64 0), .v (.int .i64 0), .v (.int .i64 0)])
      (try simp +decide (implicitDefEqProofs := false) only [go_sem, ↓stk_g, ↓stk_c, ↓reduceIte, tm0, tm2, tm4, tm9, hp_self, hp_hp, hp_ne, nrb, nbr, ne_eq, not_false_eq_true, t4, b4, hl, Int.le_refl, e1, e2, e3, f1])
      have hfit : MFits (Msg.mk k0 n1 n2 n3 [] [] pol0) := ⟨Nat.zero_le _, Nat.zero_le _, ((pol0_small 0 0).fits (by omega) (by omega))⟩
      refine stk_pureW ⟨[(111, .agg (msgCells (Msg.mk k0 n1 n2 n3 [] [] pol0))), (9, .pl (msgCells (Msg.mk k0 n1 n2 n3 [] [] pol0))), (2, .v (.pointer (some ⟨r, 0, none⟩))), (0, .v (.string s))], AHeap.none.put r (.cells TM zero15)⟩ (Weak.list _ (sub_one hr9) ?_) (encode_ok L (Msg.mk k0 n1 n2 n3 [] [] pol0) hfit) fun v hv => ?_
      · (try simp +decide (implicitDefEqProofs := false) only [go_sem, ↓stk_g, ↓stk_c, ↓reduceIte, tm0, tm2, tm4, tm9])
        exact ⟨.agg rfl (msgCells_one _) (FZ.msgX (m := (Msg.mk k0 n1 n2 n3 [] [] pol0)) (.nil 1) (.nil 2) (.nil 1) (.nil 1) (.nil 1) (.nil 1) (.nil 1)), .cells hhere (one_none nbr) rfl (FZ.msgX (m := (Msg.mk k0 n1 n2 n3 [] [] pol0)) (.nil 1) (.nil 2) (.nil 1) (.nil 1) (.nil 1) (.nil 1) (.nil 1))⟩
      subst hv
      clear hhere hr9
      rw [hasm] at hV2
      unfold encR
      cases hrt : rightM (Msg.mk k0 n1 n2 n3 [] [] pol0)
      · rw [if_neg (fun h => by rw [hrt] at h; exact absurd h.1 (by simp))] at hV2
        (try simp +decide (implicitDefEqProofs := false) only [go_sem, ↓stk_g, ↓stk_c, ↓reduceIte, tm0, tm2, tm4, tm9])
        refine aretC_one (by (try simp +decide (implicitDefEqProofs := false) only [go_sem, ↓stk_g, ↓stk_c, ↓reduceIte, tm0, tm2, tm4, tm9, hp_self])) ?_
        (try simp +decide (implicitDefEqProofs := false) only [go_sem, ↓stk_g, ↓stk_c, ↓reduceIte, tm0, tm2, tm4, tm9, hp_self])
        exact ⟨.inr rfl, AHeap.none, _, Sub.none _, .tup2 .zeroM (.refl _), by rw [hV2]; rfl⟩
      by_cases hte : msgT (Msg.mk k0 n1 n2 n3 [] [] pol0) = s
      · have h1 : decide (msgT (Msg.mk k0 n1 n2 n3 [] [] pol0) ≠ s) = false := decide_eq_false (fun h => h hte)
        rw [if_pos ⟨hrt, hte⟩] at hV2
        (try simp +decide (implicitDefEqProofs := false) only [go_sem, ↓stk_g, ↓stk_c, ↓reduceIte, tm0, tm2, tm4, tm9, h1, msgCells])
        refine aretC_one (by (try simp +decide (implicitDefEqProofs := false) only [go_sem, ↓stk_g, ↓stk_c, ↓reduceIte, tm0, tm2, tm4, tm9, hp_self])) ?_
        (try simp +decide (implicitDefEqProofs := false) only [go_sem, ↓stk_g, ↓stk_c, ↓reduceIte, tm0, tm2, tm4, tm9, hp_self])
        exact ⟨.inr rfl, AHeap.none, _, Sub.none _, .refl _, by rw [hV2]; rfl⟩
      · have h1 : decide (msgT (Msg.mk k0 n1 n2 n3 [] [] pol0) ≠ s) = true := decide_eq_true hte
        rw [if_neg (fun h => hte h.2)] at hV2
        (try simp +decide (implicitDefEqProofs := false) only [go_sem, ↓stk_g, ↓stk_c, ↓reduceIte, tm0, tm2, tm4, tm9, h1, msgCells])
        refine aretC_one (by (try simp +decide (implicitDefEqProofs := false) only [go_sem, ↓stk_g, ↓stk_c, ↓reduceIte, tm0, tm2, tm4, tm9, hp_self])) ?_
        (try simp +decide (implicitDefEqProofs := false) only [go_sem, ↓stk_g, ↓stk_c, ↓reduceIte, tm0, tm2, tm4, tm9, hp_self])
        exact ⟨.inr rfl, AHeap.none, _, Sub.none _, .tup2 .zeroM (.refl _), by rw [hV2]; rfl⟩
  have e3 : decide (k0 = 3) = false := decide_eq_false k3
  by_cases k1 : k0 = 1
  · have e1 : decide (k0 = 1) = true := decide_eq_true k1
    have e2 : decide (k0 = 2) = false := decide_eq_false (by omega)
    by_cases l1 : 0 < l.length
    · have f1 : decide ((0 : Int) < (l.length : Int)) = true := decide_eq_true (by omega)
      have f2 : (1 : Int) ≤ (l.length : Int) := by omega
      replace hasm : assembleM out = (Msg.mk k0 n1 n2 n3 (l.drop 1) [] pol0) := by rw [hasm]; unfold withM; dsimp only; rw [if_neg (fun h => k3 h.1), if_pos ⟨k1, l1⟩]
      (try simp +decide (implicitDefEqProofs := false) only [go_sem, ↓stk_g, ↓stk_c, ↓reduceIte, tm0, tm2, tm4, tm9, hp_self, hp_hp, hp_ne, nrb, nbr, ne_eq, not_false_eq_true, t4, b4, hl, Int.le_refl, e1, e2, e3, f1, f2, t1])
      have hr9 := (hp_ne (AHeap.none.put r (.cells TM zero15)) (.cells TM (msgX (Msg.mk k0 n1 n2 n3 (l.drop 1) [] pol0) (.sl false 1 (strRows (l.drop 1))) nilS nilS nilS nilS nilS nilS)) nrb).trans (hp_self _ _ _)
      have hhere := hp_self (AHeap.none.put r (.cells TM zero15)) b (.cells TM (msgX (Msg.mk k0 n1 n2 n3 (l.drop 1) [] pol0) (.sl false 1 (strRows (l.drop 1))) nilS nilS nilS nilS nilS nilS))
      (try simp +decide (implicitDefEqProofs := false) only [go_sem, ↓stk_g, ↓stk_c, ↓reduceIte, tm0, tm2, tm4, tm9, hp_self])
      have hfit : MFits (Msg.mk k0 n1 n2 n3 (l.drop 1) [] pol0) := ⟨by show (l.drop 1).length ≤ _; rw [List.length_drop]; omega, Nat.zero_le _, ((pol0_small 0 0).fits (by omega) (by omega))⟩
      refine stk_pureW ⟨[(111, .agg (msgCells (Msg.mk k0 n1 n2 n3 (l.drop 1) [] pol0))), (9, .pl (msgCells (Msg.mk k0 n1 n2 n3 (l.drop 1) [] pol0))), (2, .v (.pointer (some ⟨r, 0, none⟩))), (0, .v (.string s))], AHeap.none.put r (.cells TM zero15)⟩ (Weak.list _ (sub_one hr9) ?_) (encode_ok L (Msg.mk k0 n1 n2 n3 (l.drop 1) [] pol0) hfit) fun v hv => ?_
      · (try simp +decide (implicitDefEqProofs := false) only [go_sem, ↓stk_g, ↓stk_c, ↓reduceIte, tm0, tm2, tm4, tm9])
        exact ⟨.agg rfl (msgCells_one _) (FZ.msgX (m := (Msg.mk k0 n1 n2 n3 (l.drop 1) [] pol0)) (.refl _) (.nil 2) (.nil 1) (.nil 1) (.nil 1) (.nil 1) (.nil 1)), .cells hhere (one_none nbr) rfl (FZ.msgX (m := (Msg.mk k0 n1 n2 n3 (l.drop 1) [] pol0)) (.refl _) (.nil 2) (.nil 1) (.nil 1) (.nil 1) (.nil 1) (.nil 1))⟩
      subst hv
      clear hhere hr9
      rw [hasm] at hV2
      unfold encR
      cases hrt : rightM (Msg.mk k0 n1 n2 n3 (l.drop 1) [] pol0)
      · rw [if_neg (fun h => by rw [hrt] at h; exact absurd h.1 (by simp))] at hV2
        (try simp +decide (implicitDefEqProofs := false) only [go_sem, ↓stk_g, ↓stk_c, ↓reduceIte, tm0, tm2, tm4, tm9])
        refine aretC_one (by (try simp +decide (implicitDefEqProofs := false) only [go_sem, ↓stk_g, ↓stk_c, ↓reduceIte, tm0, tm2, tm4, tm9, hp_self])) ?_
        (try simp +decide (implicitDefEqProofs := false) only [go_sem, ↓stk_g, ↓stk_c, ↓reduceIte, tm0, tm2, tm4, tm9, hp_self])
        exact ⟨.inr rfl, AHeap.none, _, Sub.none _, .tup2 .zeroM (.refl _), by rw [hV2]; rfl⟩
      by_cases hte : msgT (Msg.mk k0 n1 n2 n3 (l.drop 1) [] pol0) = s
      · have h1 : decide (msgT (Msg.mk k0 n1 n2 n3 (l.drop 1) [] pol0) ≠ s) = false := decide_eq_false (fun h => h hte)
        rw [if_pos ⟨hrt, hte⟩] at hV2
        (try simp +decide (implicitDefEqProofs := false) only [go_sem, ↓stk_g, ↓stk_c, ↓reduceIte, tm0, tm2, tm4, tm9, h1, msgCells])
        refine aretC_one (by (try simp +decide (implicitDefEqProofs := false) only [go_sem, ↓stk_g, ↓stk_c, ↓reduceIte, tm0, tm2, tm4, tm9, hp_self])) ?_
        (try simp +decide (implicitDefEqProofs := false) only [go_sem, ↓stk_g, ↓stk_c, ↓reduceIte, tm0, tm2, tm4, tm9, hp_self])
        exact ⟨.inr rfl, AHeap.none, _, Sub.none _, .refl _, by rw [hV2]; rfl⟩
      · have h1 : decide (msgT (Msg.mk k0 n1 n2 n3 (l.drop 1) [] pol0) ≠ s) = true := decide_eq_true hte
        rw [if_neg (fun h => hte h.2)] at hV2
        (try simp +decide (implicitDefEqProofs := false) only [go_sem, ↓stk_g, ↓stk_c, ↓reduceIte, tm0, tm2, tm4, tm9, h1, msgCells])
        refine aretC_one (by (try simp +decide (implicitDefEqProofs := false) only [go_sem, ↓stk_g, ↓stk_c, ↓reduceIte, tm0, tm2, tm4, tm9, hp_self])) ?_
        (try simp +decide (implicitDefEqProofs := false) only [go_sem, ↓stk_g, ↓stk_c, ↓reduceIte, tm0, tm2, tm4, tm9, hp_self])
        exact ⟨.inr rfl, AHeap.none, _, Sub.none _, .tup2 .zeroM (.refl _), by rw [hV2]; rfl⟩
    · have f1 : decide ((0 : Int) < (l.length : Int)) = false := decide_eq_false (by omega)
      replace hasm : assembleM out = (Msg.mk k0 n1 n2 n3 [] [] pol0) := by rw [hasm]; unfold withM; dsimp only; rw [if_neg (fun h => k3 h.1), if_neg (fun h => l1 h.2), if_neg (fun h => by omega)]
      have hr9 := (hp_ne (AHeap.none.put r (.cells TM zero15)) (.cells TM [.v (.int .i64 k0), .v (.int .i64 n1), .v (.int .i64 n2), .v (.int .i64 n3), nilS, nilS, .v (.int .i64 0), nilS, nilS, nilS, nilS, nilS, .v (.int .i64 0), .v (.int .i64 0), .v (.int .i64 0)]) nrb).trans (hp_self _ _ _)
      have hhere := hp_self (AHeap.none.put r (.cells TM zero15)) b (.cells TM [.v (.int .i64 k0), .v (.int .i64 n1), .v (.int .i64 n2), .v (.int .i64 n3), nilS, nilS, .v (.int .i64 0), nilS, nilS, nilS, nilS, nilS, .v (.int .i64 0), .v (.int .i64 0), .v (.int .i64 0)])
      (try simp +decide (implicitDefEqProofs := false) only [go_sem, ↓stk_g, ↓stk_c, ↓reduceIte, tm0, tm2, tm4, tm9, hp_self, hp_hp, hp_ne, nrb, nbr, ne_eq, not_false_eq_true, t4, b4, hl, Int.le_refl, e1, e2, e3, f1])
      have hfit : MFits (Msg.mk k0 n1 n2 n3 [] [] pol0) := ⟨Nat.zero_le _, Nat.zero_le _, ((pol0_small 0 0).fits (by omega) (by omega))⟩
      refine stk_pureW ⟨[(111, .agg (msgCells (Msg.mk k0 n1 n2 n3 [] [] pol0))), (9, .pl (msgCells (Msg.mk k0 n1 n2 n3 [] [] pol0))), (2, .v (.pointer (some ⟨r, 0, none⟩))), (0, .v (.string s))], AHeap.none.put r (.cells TM zero15)⟩ (Weak.list _ (sub_one hr9) ?_) (encode_ok L (Msg.mk k0 n1 n2 n3 [] [] pol0) hfit) fun v hv => ?_
      · (try simp +decide (implicitDefEqProofs := false) only [go_sem, ↓stk_g, ↓stk_c, ↓reduceIte, tm0, tm2, tm4, tm9])
        exact ⟨.agg rfl (msgCells_one _) (FZ.msgX (m := (Msg.mk k0 n1 n2 n3 [] [] pol0)) (.nil 1) (.nil 2) (.nil 1) (.nil 1) (.nil 1) (.nil 1) (.nil 1)), .cells hhere (one_none nbr) rfl (FZ.msgX (m := (Msg.mk k0 n1 n2 n3 [] [] pol0)) (.nil 1) (.nil 2) (.nil 1) (.nil 1) (.nil 1) (.nil 1) (.nil 1))⟩
      subst hv
      clear hhere hr9
      rw [hasm] at hV2
      unfold encR
      cases hrt : rightM (Msg.mk k0 n1 n2 n3 [] [] pol0)
      · rw [if_neg (fun h => by rw [hrt] at h; exact absurd h.1 (by simp))] at hV2
        (try simp +decide (implicitDefEqProofs := false) only [go_sem, ↓stk_g, ↓stk_c, ↓reduceIte, tm0, tm2, tm4, tm9])
        refine aretC_one (by (try simp +decide (implicitDefEqProofs := false) only [go_sem, ↓stk_g, ↓stk_c, ↓reduceIte, tm0, tm2, tm4, tm9, hp_self])) ?_
        (try simp +decide (implicitDefEqProofs := false) only [go_sem, ↓stk_g, ↓stk_c, ↓reduceIte, tm0, tm2, tm4, tm9, hp_self])
        exact ⟨.inr rfl, AHeap.none, _, Sub.none _, .tup2 .zeroM (.refl _), by rw [hV2]; rfl⟩
      by_cases hte : msgT (Msg.mk k0 n1 n2 n3 [] [] pol0) = s
      · have h1 : decide (msgT (Msg.mk k0 n1 n2 n3 [] [] pol0) ≠ s) = false := decide_eq_false (fun h => h hte)
        rw [if_pos ⟨hrt, hte⟩] at hV2
        (try simp +decide (implicitDefEqProofs := false) only [go_sem, ↓stk_g, ↓stk_c, ↓reduceIte, tm0, tm2, tm4, tm9, h1, msgCells])
        refine aretC_one (by (try simp +decide (implicitDefEqProofs := false) only [go_sem, ↓stk_g, ↓stk_c, ↓reduceIte, tm0, tm2, tm4, tm9, hp_self])) ?_
        (try simp +decide (implicitDefEqProofs := false) only [go_sem, ↓stk_g, ↓stk_c, ↓reduceIte, tm0, tm2, tm4, tm9, hp_self])
        exact ⟨.inr rfl, AHeap.none, _, Sub.none _, .refl _, by rw [hV2]; rfl⟩
      · have h1 : decide (msgT (Msg.mk k0 n1 n2 n3 [] [] pol0) ≠ s) = true := decide_eq_true hte
        rw [if_neg (fun h => hte h.2)] at hV2
        (try simp +decide (implicitDefEqProofs := false) only [go_sem, ↓stk_g, ↓stk_c, ↓reduceIte, tm0, tm2, tm4, tm9, h1, msgCells])
        refine aretC_one (by (try simp +decide (implicitDefEqProofs := false) only [go_sem, ↓stk_g, ↓stk_c, ↓reduceIte, tm0, tm2, tm4, tm9, hp_self])) ?_
        (try simp +decide (implicitDefEqProofs := false) only [go_sem, ↓stk_g, ↓stk_c, ↓reduceIte, tm0, tm2, tm4, tm9, hp_self])
        exact ⟨.inr rfl, AHeap.none, _, Sub.none _, .tup2 .zeroM (.refl _), by rw [hV2]; rfl⟩
  have e1 : decide (k0 = 1) = false := decide_eq_false k1
  by_cases k2 : k0 = 2 ∧ 0 < l.length
  rotate_left
  · replace hasm : assembleM out = (Msg.mk k0 n1 n2 n3 [] [] pol0) := by rw [hasm]; unfold withM; dsimp only; rw [if_neg (fun h => k3 h.1), if_neg (fun h => k1 h.1), if_neg k2]
    have hr9 := (hp_ne (AHeap.none.put r (.cells TM zero15)) (.cells TM [.v (.int .i64 k0), .v (.int .i64 n1), .v (.int .i64 n2), .v (.int .i64 n3), nilS, nilS, .v (.int .i64 0), nilS, nilS, nilS, nilS, nilS, .v (.int .i64 0), .v (.int .i64 0), .v (.int .i64 0)]) nrb).trans (hp_self _ _ _)
    have hhere := hp_self (AHeap.none.put r (.cells TM zero15)) b (.cells TM [.v (.int .i64 k0), .v (.int .i64 n1), .v (.int .i64 n2), .v (.int .i64 n3), nilS, nilS, .v (.int .i64 0), nilS, nilS, nilS, nilS, nilS, .v (.int .i64 0), .v (.int .i64 0), .v (.int .i64 0)])
    by_cases k22 : k0 = 2
    · have e2 : decide (k0 = 2) = true := decide_eq_true k22
      have f1 : decide ((0 : Int) < (l.length : Int)) = false := decide_eq_false (fun h => k2 ⟨k22, by omega⟩)
      (try simp +decide (implicitDefEqProofs := false) only [go_sem, ↓stk_g, ↓stk_c, ↓reduceIte, tm0, tm2, tm4, tm9, hp_self, hp_hp, hp_ne, nrb, nbr, ne_eq, not_false_eq_true, t4, b4, hl, Int.le_refl, e1, e2, e3, f1])
      have hfit : MFits (Msg.mk k0 n1 n2 n3 [] [] pol0) := ⟨Nat.zero_le _, Nat.zero_le _, ((pol0_small 0 0).fits (by omega) (by omega))⟩
      refine stk_pureW ⟨[(111, .agg (msgCells (Msg.mk k0 n1 n2 n3 [] [] pol0))), (9, .pl (msgCells (Msg.mk k0 n1 n2 n3 [] [] pol0))), (2, .v (.pointer (some ⟨r, 0, none⟩))), (0, .v (.string s))], AHeap.none.put r (.cells TM zero15)⟩ (Weak.list _ (sub_one hr9) ?_) (encode_ok L (Msg.mk k0 n1 n2 n3 [] [] pol0) hfit) fun v hv => ?_
      · (try simp +decide (implicitDefEqProofs := false) only [go_sem, ↓stk_g, ↓stk_c, ↓reduceIte, tm0, tm2, tm4, tm9])
        exact ⟨.agg rfl (msgCells_one _) (FZ.msgX (m := (Msg.mk k0 n1 n2 n3 [] [] pol0)) (.nil 1) (.nil 2) (.nil 1) (.nil 1) (.nil 1) (.nil 1) (.nil 1)), .cells hhere (one_none nbr) rfl (FZ.msgX (m := (Msg.mk k0 n1 n2 n3 [] [] pol0)) (.nil 1) (.nil 2) (.nil 1) (.nil 1) (.nil 1) (.nil 1) (.nil 1))⟩
      subst hv
      clear hhere hr9
      rw [hasm] at hV2
      unfold encR
      cases hrt : rightM (Msg.mk k0 n1 n2 n3 [] [] pol0)
      · rw [if_neg (fun h => by rw [hrt] at h; exact absurd h.1 (by simp))] at hV2
        (try simp +decide (implicitDefEqProofs := false) only [go_sem, ↓stk_g, ↓stk_c, ↓reduceIte, tm0, tm2, tm4, tm9])
        refine aretC_one (by (try simp +decide (implicitDefEqProofs := false) only [go_sem, ↓stk_g, ↓stk_c, ↓reduceIte, tm0, tm2, tm4, tm9, hp_self])) ?_
        (try simp +decide (implicitDefEqProofs := false) only [go_sem, ↓stk_g, ↓stk_c, ↓reduceIte, tm0, tm2, tm4, tm9, hp_self])
        exact ⟨.inr rfl, AHeap.none, _, Sub.none _, .tup2 .zeroM (.refl _), by rw [hV2]; rfl⟩
      by_cases hte : msgT (Msg.mk k0 n1 n2 n3 [] [] pol0) = s
      · have h1 : decide (msgT (Msg.mk k0 n1 n2 n3 [] [] pol0) ≠ s) = false := decide_eq_false (fun h => h hte)
        rw [if_pos ⟨hrt, hte⟩] at hV2
        (try simp +decide (implicitDefEqProofs := false) only [go_sem, ↓stk_g, ↓stk_c, ↓reduceIte, tm0, tm2, tm4, tm9, h1, msgCells])
        refine aretC_one (by (try simp +decide (implicitDefEqProofs := false) only [go_sem, ↓stk_g, ↓stk_c, ↓reduceIte, tm0, tm2, tm4, tm9, hp_self])) ?_
        (try simp +decide (implicitDefEqProofs := false) only [go_sem, ↓stk_g, ↓stk_c, ↓reduceIte, tm0, tm2, tm4, tm9, hp_self])
        exact ⟨.inr rfl, AHeap.none, _, Sub.none _, .refl _, by rw [hV2]; rfl⟩
      · have h1 : decide (msgT (Msg.mk k0 n1 n2 n3 [] [] pol0) ≠ s) = true := decide_eq_true hte
        rw [if_neg (fun h => hte h.2)] at hV2
        (try simp +decide (implicitDefEqProofs := false) only [go_sem, ↓stk_g, ↓stk_c, ↓reduceIte, tm0, tm2, tm4, tm9, h1, msgCells])
        refine aretC_one (by (try simp +decide (implicitDefEqProofs := false) only [go_sem, ↓stk_g, ↓stk_c, ↓reduceIte, tm0, tm2, tm4, tm9, hp_self])) ?_
        (try simp +decide (implicitDefEqProofs := false) only [go_sem, ↓stk_g, ↓stk_c, ↓reduceIte, tm0, tm2, tm4, tm9, hp_self])
        exact ⟨.inr rfl, AHeap.none, _, Sub.none _, .tup2 .zeroM (.refl _), by rw [hV2]; rfl⟩
    · have e2 : decide (k0 = 2) = false := decide_eq_false k22
      (try simp +decide (implicitDefEqProofs := false) only [go_sem, ↓stk_g, ↓stk_c, ↓reduceIte, tm0, tm2, tm4, tm9, hp_self, hp_hp, hp_ne, nrb, nbr, ne_eq, not_false_eq_true, t4, b4, hl, Int.le_refl, e1, e2, e3])
      have hfit : MFits (Msg.mk k0 n1 n2 n3 [] [] pol0) := ⟨Nat.zero_le _, Nat.zero_le _, ((pol0_small 0 0).fits (by omega) (by omega))⟩
      refine stk_pureW ⟨[(111, .agg (msgCells (Msg.mk k0 n1 n2 n3 [] [] pol0))), (9, .pl (msgCells (Msg.mk k0 n1 n2 n3 [] [] pol0))), (2, .v (.pointer (some ⟨r, 0, none⟩))), (0, .v (.string s))], AHeap.none.put r (.cells TM zero15)⟩ (Weak.list _ (sub_one hr9) ?_) (encode_ok L (Msg.mk k0 n1 n2 n3 [] [] pol0) hfit) fun v hv => ?_
      · (try simp +decide (implicitDefEqProofs := false) only [go_sem, ↓stk_g, ↓stk_c, ↓reduceIte, tm0, tm2, tm4, tm9])
        exact ⟨.agg rfl (msgCells_one _) (FZ.msgX (m := (Msg.mk k0 n1 n2 n3 [] [] pol0)) (.nil 1) (.nil 2) (.nil 1) (.nil 1) (.nil 1) (.nil 1) (.nil 1)), .cells hhere (one_none nbr) rfl (FZ.msgX (m := (Msg.mk k0 n1 n2 n3 [] [] pol0)) (.nil 1) (.nil 2) (.nil 1) (.nil 1) (.nil 1) (.nil 1) (.nil 1))⟩
      subst hv
      clear hhere hr9
      rw [hasm] at hV2
      unfold encR
      cases hrt : rightM (Msg.mk k0 n1 n2 n3 [] [] pol0)
      · rw [if_neg (fun h => by rw [hrt] at h; exact absurd h.1 (by simp))] at hV2
        (try simp +decide (implicitDefEqProofs := false) only [go_sem, ↓stk_g, ↓stk_c, ↓reduceIte, tm0, tm2, tm4, tm9])
        refine aretC_one (by (try simp +decide (implicitDefEqProofs := false) only [go_sem, ↓stk_g, ↓stk_c, ↓reduceIte, tm0, tm2, tm4, tm9, hp_self])) ?_
        (try simp +decide (implicitDefEqProofs := false) only [go_sem, ↓stk_g, ↓stk_c, ↓reduceIte, tm0, tm2, tm4, tm9, hp_self])
        exact ⟨.inr rfl, AHeap.none, _, Sub.none _, .tup2 .zeroM (.refl _), by rw [hV2]; rfl⟩
      by_cases hte : msgT (Msg.mk k0 n1 n2 n3 [] [] pol0) = s
      · have h1 : decide (msgT (Msg.mk k0 n1 n2 n3 [] [] pol0) ≠ s) = false := decide_eq_false (fun h => h hte)
        rw [if_pos ⟨hrt, hte⟩] at hV2
        (try simp +decide (implicitDefEqProofs := false) only [go_sem, ↓stk_g, ↓stk_c, ↓reduceIte, tm0, tm2, tm4, tm9, h1, msgCells])
        refine aretC_one (by (try simp +decide (implicitDefEqProofs := false) only [go_sem, ↓stk_g, ↓stk_c, ↓reduceIte, tm0, tm2, tm4, tm9, hp_self])) ?_
        (try simp +decide (implicitDefEqProofs := false) only [go_sem, ↓stk_g, ↓stk_c, ↓reduceIte, tm0, tm2, tm4, tm9, hp_self])
        exact ⟨.inr rfl, AHeap.none, _, Sub.none _, .refl _, by rw [hV2]; rfl⟩
      · have h1 : decide (msgT (Msg.mk k0 n1 n2 n3 [] [] pol0) ≠ s) = true := decide_eq_true hte
        rw [if_neg (fun h => hte h.2)] at hV2
        (try simp +decide (implicitDefEqProofs := false) only [go_sem, ↓stk_g, ↓stk_c, ↓reduceIte, tm0, tm2, tm4, tm9, h1, msgCells])
        refine aretC_one (by (try simp +decide (implicitDefEqProofs := false) only [go_sem, ↓stk_g, ↓stk_c, ↓reduceIte, tm0, tm2, tm4, tm9, hp_self])) ?_
        (try simp +decide (implicitDefEqProofs := false) only [go_sem, ↓stk_g, ↓stk_c, ↓reduceIte, tm0, tm2, tm4, tm9, hp_self])
        exact ⟨.inr rfl, AHeap.none, _, Sub.none _, .tup2 .zeroM (.refl _), by rw [hV2]; rfl⟩
  replace hasm : assembleM out = (Msg.mk k0 n1 n2 n3 [] (pairsP (l.drop 1)) pol0) := by rw [hasm]; unfold withM; dsimp only; rw [if_neg (fun h => k3 h.1), if_neg (fun h => k1 h.1), if_pos k2]
  have e2 : decide (k0 = 2) = true := decide_eq_true k2.1
  have f1 : decide ((0 : Int) < (l.length : Int)) = true := decide_eq_true (by omega)
  have f2 : (1 : Int) ≤ (l.length : Int) := by omega
  (try simp +decide (implicitDefEqProofs := false) only [go_sem, ↓stk_g, ↓stk_c, ↓reduceIte, tm0, tm2, tm4, tm9, hp_self, hp_hp, hp_ne, nrb, nbr, ne_eq, not_false_eq_true, t4, b4, hl, Int.le_refl, e1, e2, e3, f1, f2, t1])
  have hl1 : (l.drop 1).length ≤ 1000000 := by rw [List.length_drop]; omega
  have hpl := pairs_len (l.drop 1)
  generalize l.drop 1 = l' at hl1 hpl hasm ⊢
  refine stk_up (α := List (Str × Str) × List Str × AVal × AHeap) l'.length (fun i a => ⟨[(4, .sl false 1 (strRows a.2.1)), (9, .v (.pointer (some ⟨b, 0, none⟩))), (2, .v (.pointer (some ⟨r, 0, none⟩))), (0, .v (.string s))], a.2.2.2⟩)
    (fun i a => (a.2.1.length + i ≤ l'.length ∧ a.1.length ≤ i ∧ pairsP l' = a.1 ++ pairsP a.2.1) ∧ RowO a.2.2.2 38 2 a.2.2.1 (postRows a.1) ∧ a.2.2.2 r = some (.cells TM zero15) ∧ a.2.2.2 b = some (.cells TM [.v (.int .i64 k0), .v (.int .i64 n1), .v (.int .i64 n2), .v (.int .i64 n3), nilS, a.2.2.1, .v (.int .i64 0), nilS, nilS, nilS, nilS, nilS, .v (.int .i64 0), .v (.int .i64 0), .v (.int .i64 0)]))
    ([], l', nilS, ((AHeap.none.put r (.cells TM zero15)).put b (.cells TM [.v (.int .i64 k0), .v (.int .i64 n1), .v (.int .i64 n2), .v (.int .i64 n3), nilS, nilS, .v (.int .i64 0), nilS, nilS, nilS, nilS, nilS, .v (.int .i64 0), .v (.int .i64 0), .v (.int .i64 0)]))) (Weak.list _ (Sub.refl _) ?_) ⟨⟨Nat.le_refl _, Nat.le_refl _, rfl⟩, RowO.nil, (hp_ne _ _ nrb).trans (hp_self _ _ _), hp_self _ _ _⟩ ?_
  · (try simp +decide (implicitDefEqProofs := false) only [go_sem, ↓stk_g, ↓stk_c, ↓reduceIte, tm0, tm2, tm4, tm9])
    first | done | exact .loose _ _ _ | exact .refl _
  rintro i ⟨done, lf, x, H⟩ hi ⟨⟨hJ1, hJ2, hJ3⟩, hx, hr8, hh8⟩
  dsimp only at hJ1 hJ2 hJ3 hx hr8 hh8 ⊢
  have hxb := hx.notC hh8
  have hxr := hx.notC hr8
  by_cases hlt : 1 < lf.length
  · have g1 : (1 : Int) < (lf.length : Int) := by omega
    have g0 : (0 : Int) < (lf.length : Int) := by omega
    have g2 : (2 : Int) ≤ (lf.length : Int) := by omega
    have m0 : 0 < lf.length := by omega
    have u0 := strRows_get m0
    have u1 := strRows_get hlt
    have htwo := drop_two (i := 0) hlt
    have hstep : pairsP lf = (lf.getD 0 ByteArray.empty, lf.getD 1 ByteArray.empty) :: pairsP (lf.drop 2) := by
      generalize lf.getD 0 ByteArray.empty = a0 at htwo
      generalize lf.getD 1 ByteArray.empty = a1 at htwo
      generalize hd2 : lf.drop 2 = l2 at htwo
      rw [htwo]; rfl
    have hld : (lf.drop 2).length = lf.length - 2 := List.length_drop
    rw [hstep] at hJ3
    obtain rfl | ⟨c, mm, rfl⟩ := hx.shape
    all_goals (
      (try simp +decide (implicitDefEqProofs := false) only [go_sem, ↓stk_g, ↓stk_c, ↓reduceIte, tm0, tm2, tm4, tm9, g0, g1, g2, m0, hlt, t1, t2, u0, u1, hh8, Int.le_refl])
      refine stk_appX (rows := postRows done) (new := [[.v (.string (lf.getD 0 ByteArray.empty)), .v (.string (lf.getD 1 ByteArray.empty))]]) hx (by rfl) (by simp only [postRows_len, List.length_cons, List.length_nil]; omega) fun y H2 hy hrs hf => ?_
      have hr2 := hrs r _ hr8 hxr
      have hh2 := hrs b _ hh8 hxb
      have hyb := hf b _ hh8 hxb
      obtain rfl | ⟨c2, mm2, rfl⟩ := hy.shape
      all_goals (
        (try simp +decide (implicitDefEqProofs := false) only [go_sem, ↓stk_g, ↓stk_c, ↓reduceIte, tm0, tm2, tm4, tm9, hh2, hp_self, g2, t2, Int.le_refl])
        refine ⟨by omega, (done ++ [(lf.getD 0 ByteArray.empty, lf.getD 1 ByteArray.empty)], lf.drop 2, _, _), Weak.list _ (Sub.refl _) ?_, ⟨by dsimp only; omega, by simp; omega, by rw [hJ3]; simp⟩, (by rw [← postRows_append]; exact hy.put hyb), (hp_ne _ _ nrb).trans hr2, hp_self _ _ _⟩
        (try simp +decide (implicitDefEqProofs := false) only [go_sem, ↓stk_g, ↓stk_c, ↓reduceIte, tm0, tm2, tm4, tm9])
        first | done | exact .loose _ _ _ | exact .refl _))
  have g1 : ¬ (1 : Int) < (lf.length : Int) := by omega
  rw [pairs_short hlt, List.append_nil] at hJ3
  rw [hJ3] at hasm hpl
  have hr9 := hr8
  have hhere := hh8
  (try simp +decide (implicitDefEqProofs := false) only [go_sem, ↓stk_g, ↓stk_c, ↓reduceIte, tm0, tm2, tm4, tm9, g1, hh8])
  have hfit : MFits (Msg.mk k0 n1 n2 n3 [] done pol0) := ⟨Nat.zero_le _, by show done.length ≤ _; omega, ((pol0_small 0 0).fits (by omega) (by omega))⟩
  refine stk_pureW ⟨[(111, .agg (msgCells (Msg.mk k0 n1 n2 n3 [] done pol0))), (9, .pl (msgCells (Msg.mk k0 n1 n2 n3 [] done pol0))), (2, .v (.pointer (some ⟨r, 0, none⟩))), (0, .v (.string s))], AHeap.none.put r (.cells TM zero15)⟩ (Weak.list _ (sub_one hr9) ?_) (encode_ok L (Msg.mk k0 n1 n2 n3 [] done pol0) hfit) fun v hv => ?_
  · (try simp +decide (implicitDefEqProofs := false) only [go_sem, ↓stk_g, ↓stk_c, ↓reduceIte, tm0, tm2, tm4, tm9])
    exact ⟨.agg rfl (msgCells_one _) (FZ.msgX (m := (Msg.mk k0 n1 n2 n3 [] done pol0)) (.nil 1) (hx.row.fz (postGood done) (fun c hc => one_none (fun e => hxr (by rw [hc, e])))) (.nil 1) (.nil 1) (.nil 1) (.nil 1) (.nil 1)), .cells hhere (one_none nbr) rfl (FZ.msgX (m := (Msg.mk k0 n1 n2 n3 [] done pol0)) (.nil 1) (hx.row.fz (postGood done) (fun c hc => one_none (fun e => hxr (by rw [hc, e])))) (.nil 1) (.nil 1) (.nil 1) (.nil 1) (.nil 1))⟩
  subst hv
  clear hhere hr9
  rw [hasm] at hV2
  unfold encR
  cases hrt : rightM (Msg.mk k0 n1 n2 n3 [] done pol0)
  · rw [if_neg (fun h => by rw [hrt] at h; exact absurd h.1 (by simp))] at hV2
    (try simp +decide (implicitDefEqProofs := false) only [go_sem, ↓stk_g, ↓stk_c, ↓reduceIte, tm0, tm2, tm4, tm9])
    refine aretC_one (by (try simp +decide (implicitDefEqProofs := false) only [go_sem, ↓stk_g, ↓stk_c, ↓reduceIte, tm0, tm2, tm4, tm9, hp_self])) ?_
    (try simp +decide (implicitDefEqProofs := false) only [go_sem, ↓stk_g, ↓stk_c, ↓reduceIte, tm0, tm2, tm4, tm9, hp_self])
    exact ⟨.inr rfl, AHeap.none, _, Sub.none _, .tup2 .zeroM (.refl _), by rw [hV2]; rfl⟩
  by_cases hte : msgT (Msg.mk k0 n1 n2 n3 [] done pol0) = s
  · have h1 : decide (msgT (Msg.mk k0 n1 n2 n3 [] done pol0) ≠ s) = false := decide_eq_false (fun h => h hte)
    rw [if_pos ⟨hrt, hte⟩] at hV2
    (try simp +decide (implicitDefEqProofs := false) only [go_sem, ↓stk_g, ↓stk_c, ↓reduceIte, tm0, tm2, tm4, tm9, h1, msgCells])
    refine aretC_one (by (try simp +decide (implicitDefEqProofs := false) only [go_sem, ↓stk_g, ↓stk_c, ↓reduceIte, tm0, tm2, tm4, tm9, hp_self])) ?_
    (try simp +decide (implicitDefEqProofs := false) only [go_sem, ↓stk_g, ↓stk_c, ↓reduceIte, tm0, tm2, tm4, tm9, hp_self])
    exact ⟨.inr rfl, AHeap.none, _, Sub.none _, .refl _, by rw [hV2]; rfl⟩
  · have h1 : decide (msgT (Msg.mk k0 n1 n2 n3 [] done pol0) ≠ s) = true := decide_eq_true hte
    rw [if_neg (fun h => hte h.2)] at hV2
    (try simp +decide (implicitDefEqProofs := false) only [go_sem, ↓stk_g, ↓stk_c, ↓reduceIte, tm0, tm2, tm4, tm9, h1, msgCells])
    refine aretC_one (by (try simp +decide (implicitDefEqProofs := false) only [go_sem, ↓stk_g, ↓stk_c, ↓reduceIte, tm0, tm2, tm4, tm9, hp_self])) ?_
    (try simp +decide (implicitDefEqProofs := false) only [go_sem, ↓stk_g, ↓stk_c, ↓reduceIte, tm0, tm2, tm4, tm9, hp_self])
    exact ⟨.inr rfl, AHeap.none, _, Sub.none _, .tup2 .zeroM (.refl _), by rw [hV2]; rfl⟩
set_option maxHeartbeats 32000000 in
theorem decode_ok {W : World} (L : Laid W) (E : Errs W) (s : Str) (hs : s.size ≤ 1000000) (hsm : ∀ l, parseF s.size s = .inr l → numN (l.getD 0 ByteArray.empty) = 3 → (l.drop 4).length = 1 → ((l.drop 4).getD 0 ByteArray.empty).size ≤ 19000) :
    ACalls Tryz.prog W 11 [.v (.string s)] AHeap.none fun v _ => v = decodeA (decodeV s) := by
  refine fn_run follows k_Decode rfl ?_
  simp only [c_Decode, aretC_nil, List.zipIdx_cons, List.zipIdx_nil, List.map_cons, List.map_nil, Nat.zero_add]
  (try simp +decide (implicitDefEqProofs := false) only [go_sem, ↓stk_g, ↓stk_c, ↓reduceIte])
  rw [stk_alloc]
  intro r hr
  (try simp +decide (implicitDefEqProofs := false) only [go_sem, ↓stk_g, ↓stk_c, ↓reduceIte])
  refine stk_up (α := List Str × Str × AVal × AHeap) s.size (fun i a => ⟨[(5, .v (.string a.2.1)), (4, a.2.2.1), (2, .v (.pointer (some ⟨r, 0, none⟩))), (0, .v (.string s))], a.2.2.2⟩)
    (fun i a => (a.1.length ≤ i ∧ a.2.1.size + i ≤ s.size ∧ RowO a.2.2.2 9 1 a.2.2.1 (strRows a.1) ∧ a.2.2.2 r = some (.cells TM zero15)) ∧ (∀ x ∈ a.1, x.size ≤ s.size) ∧ ∃ n, a.2.1.size ≤ n ∧ parseF s.size s = addP a.1 (parseF n a.2.1))
    ([], s, .v (.slice none 0 0), _) (Weak.list _ (Sub.refl _) (by (try simp +decide (implicitDefEqProofs := false) only [go_sem, ↓stk_g, ↓stk_c, ↓reduceIte]))) ⟨⟨Nat.le_refl _, Nat.le_refl _, RowO.nil, hp_self _ _ _⟩, (fun x h => by cases h), s.size, Nat.le_refl _, (addP_nil _).symm⟩ ?_
  clear hr
  rintro i ⟨out, left, x, H⟩ hi ⟨⟨hJ1, hJ2, hJ3, hr⟩, hJ4, n, hJ5, hJ6⟩
  dsimp only at hJ1 hJ2 hJ3 hr hJ4 hJ5 hJ6 ⊢
  by_cases hne : left = ByteArray.empty
  case neg =>
    have d1 : decide (left ≠ ByteArray.empty) = true := decide_eq_true hne
    have hpos := size_pos hne
    obtain ⟨n0, rfl⟩ : ∃ n0, n = n0 + 1 := ⟨n - 1, by omega⟩
    (try simp +decide (implicitDefEqProofs := false) only [go_sem, ↓stk_g, ↓stk_c, ↓reduceIte, d1])
    refine stk_pure (field_ok E left (by omega)) fun v hv => ?_
    subst hv
    have herr := fieldV_err left
    have hsz := @fieldV_size left
    have hpe := parseF_err (n := n0) hne
    have hps := parseF_step (n := n0) hne
    generalize fieldV left = q at herr hsz hpe hps
    obtain ⟨f, rest, e⟩ := q
    dsimp only at herr hsz hpe hps
    unfold fieldA
    dsimp only
    by_cases he : e = 0
    · subst he
      obtain ⟨z1, z2⟩ := hsz rfl
      rw [hps rfl, addP_addP] at hJ6
      have d2 : decide ((0 : Int) ≠ 0) = false := rfl
      (try simp +decide (implicitDefEqProofs := false) only [go_sem, ↓stk_g, ↓stk_c, ↓reduceIte, d2])
      refine stk_appX (rows := strRows out) (new := strRows [f]) hJ3 (by rfl) (by simp only [strRows_len, List.length_cons, List.length_nil]; omega) fun y H2 hy hrs hf => ?_
      have hr2 := hrs r _ hr (hJ3.notC hr)
      (try simp +decide (implicitDefEqProofs := false) only [go_sem, ↓stk_g, ↓stk_c, ↓reduceIte])
      refine ⟨by omega, (out ++ [f], rest, y, H2), Weak.list _ (Sub.refl _) (by (try simp +decide (implicitDefEqProofs := false) only [go_sem, ↓stk_g, ↓stk_c, ↓reduceIte])), ⟨by simp; omega, by dsimp only; omega, by simpa only [strRows_append] using hy, hr2⟩, fun z hz => ?_, n0, by dsimp only; omega, hJ6⟩
      rcases List.mem_append.1 hz with hz | hz
      · exact hJ4 z hz
      · rw [List.mem_singleton.1 hz]; omega
    · have d2 : decide (e ≠ 0) = true := decide_eq_true he
      rw [hpe he] at hJ6
      (try simp +decide (implicitDefEqProofs := false) only [go_sem, ↓stk_g, ↓stk_c, ↓reduceIte, d2, hr, hp_self])
      refine aretC_one (by (try simp +decide (implicitDefEqProofs := false) only [go_sem, ↓stk_g, ↓stk_c, ↓reduceIte, hp_self])) ?_
      (try simp +decide (implicitDefEqProofs := false) only [go_sem, ↓stk_g, ↓stk_c, ↓reduceIte, hp_self])
      exact ⟨.inr rfl, AHeap.none, _, Sub.none _, .tup2 .zeroM (.refl _), by unfold decodeV; rw [hJ6]; rfl⟩
  have d1 : decide (left ≠ ByteArray.empty) = false := decide_eq_false (fun h => h hne)
  subst hne
  rw [parseF_nil] at hJ6
  have hparse : parseF s.size s = .inr out := by rw [hJ6]; simp [addP]
  have hV : decodeV s = decodeL s (.inr out) := by unfold decodeV; rw [hparse]
  have hsm2 := hsm out hparse
  clear hJ6 hJ5 hsm hparse
  have hol : out.length ≤ 1000000 := by omega
  have hxs : (x = nilS ∧ out.length = 0) ∨ ∃ g, x = .bs g 1 out.length ∧ H g = some (.buf 9 1 (strRows out)) := by
    generalize hrows : strRows out = rows at hJ3
    have hl2 : rows.length = out.length := by rw [← hrows, strRows_len]
    cases hJ3 with
    | nil => exact .inl ⟨rfl, hl2.symm⟩
    | @bs g n _ h hn => exact .inr ⟨g, by rw [hn, hl2], h⟩
  by_cases h4 : out.length < 4
  · have c4 : (out.length : Int) < 4 := by omega
    have hV3 : decodeV s = (msg0, 2) := by rw [hV]; unfold decodeL; dsimp only; rw [if_pos h4]
    rcases hxs with ⟨rfl, h0⟩ | ⟨g, rfl, hg⟩
    · (try simp +decide (implicitDefEqProofs := false) only [go_sem, ↓stk_g, ↓stk_c, ↓reduceIte, d1, hr, hp_self])
      refine aretC_one (by (try simp +decide (implicitDefEqProofs := false) only [go_sem, ↓stk_g, ↓stk_c, ↓reduceIte, hp_self])) ?_
      (try simp +decide (implicitDefEqProofs := false) only [go_sem, ↓stk_g, ↓stk_c, ↓reduceIte, hp_self])
      exact ⟨.inr rfl, AHeap.none, _, Sub.none _, .tup2 .zeroM (.refl _), by rw [hV3]; rfl⟩
    · (try simp +decide (implicitDefEqProofs := false) only [go_sem, ↓stk_g, ↓stk_c, ↓reduceIte, d1, c4, hr, hp_self])
      refine aretC_one (by (try simp +decide (implicitDefEqProofs := false) only [go_sem, ↓stk_g, ↓stk_c, ↓reduceIte, hp_self])) ?_
      (try simp +decide (implicitDefEqProofs := false) only [go_sem, ↓stk_g, ↓stk_c, ↓reduceIte, hp_self])
      exact ⟨.inr rfl, AHeap.none, _, Sub.none _, .tup2 .zeroM (.refl _), by rw [hV3]; rfl⟩
  obtain ⟨g, rfl, hg⟩ : ∃ g, x = .bs g 1 out.length ∧ H g = some (.buf 9 1 (strRows out)) := hxs.resolve_left (fun h => by omega)
  have c4 : ¬ (out.length : Int) < 4 := by omega
  have ngr : g ≠ r := fun e => by rw [e, hr] at hg; cases hg
  have i0 : (0 : Int) < (out.length : Int) := by omega
  have i1 : (1 : Int) < (out.length : Int) := by omega
  have i2 : (2 : Int) < (out.length : Int) := by omega
  have i3 : (3 : Int) < (out.length : Int) := by omega
  have n0 : 0 < out.length := by omega
  have n1 : 1 < out.length := by omega
  have n2 : 2 < out.length := by omega
  have n3 : 3 < out.length := by omega
  have q0 := strRows_get n0
  have q1 := strRows_get n1
  have q2 := strRows_get n2
  have q3 := strRows_get n3
  have t1 : (1 : Int).toNat = 1 := rfl
  have t2 : (2 : Int).toNat = 2 := rfl
  have t3 : (3 : Int).toNat = 3 := rfl
  have hzz : ∀ j, j < out.length → (out.getD j ByteArray.empty).size ≤ 1000000000 := fun j hj => by
    have e : out.getD j ByteArray.empty = out[j] := by simp [hj]
    rw [e]; have := hJ4 _ (List.getElem_mem hj); omega
  have z0 := hzz 0 n0
  have z1 := hzz 1 n1
  have z2 := hzz 2 n2
  have z3 := hzz 3 n3
  have hrow : RowO H 9 1 (.bs g 1 out.length) (strRows out) := .bs hg (by rw [strRows_len])
  have hV2 : decodeV s = if rightM (assembleM out) = true ∧ msgT (assembleM out) = s then (assembleM out, 0) else (msg0, 2) := by
    rw [hV]; unfold decodeL; dsimp only; rw [if_neg h4]
  have hasm : assembleM out = withM ⟨numN (out.getD 0 ByteArray.empty), numN (out.getD 1 ByteArray.empty), numN (out.getD 2 ByteArray.empty), numN (out.getD 3 ByteArray.empty), [], [], pol0⟩ (out.drop 4) := rfl
  have hdl : (out.drop 4).length = out.length - 4 := List.length_drop
  have b4 : (4 : Int) ≤ (out.length : Int) := by omega
  have t4 : (4 : Int).toNat = 4 := rfl
  clear hV hJ1 hJ2 hJ3 hxs hzz
  (try simp +decide (implicitDefEqProofs := false) only [go_sem, ↓stk_g, ↓stk_c, ↓reduceIte, d1, c4, i0, i1, i2, i3, n0, n1, n2, n3, t1, t2, t3, q0, q1, q2, q3, hg])
  generalize out.getD 0 ByteArray.empty = s0 at z0 hasm hsm2 ⊢
  generalize out.getD 1 ByteArray.empty = s1 at z1 hasm ⊢
  generalize out.getD 2 ByteArray.empty = s2 at z2 hasm ⊢
  generalize out.getD 3 ByteArray.empty = s3 at z3 hasm ⊢
  clear q0 q1 q2 q3
  refine stk_both ?_ ?_
  rotate_left
  · (try simp +decide (implicitDefEqProofs := false) only [go_sem, ↓stk_g, ↓stk_c, ↓reduceIte])
    rw [stk_alloc]
    intro b hb
    have hb0 : H b = none := hb
    have nbr : b ≠ r := new_ne hr hb0
    have nrb : r ≠ b := nbr.symm
    have ngb : g ≠ b := fun e => by rw [← e, hg] at hb0; cases hb0
    (try simp +decide (implicitDefEqProofs := false) only [go_sem, ↓stk_g, ↓stk_c, ↓reduceIte])
    refine stk_callq (mnumber_ok E s0 z0) fun v hv => ?_
    subst hv
    (try simp +decide (implicitDefEqProofs := false) only [go_sem, ↓stk_g, ↓stk_c, ↓reduceIte])
    refine stk_callq (mnumber_ok E s1 z1) fun v hv => ?_
    subst hv
    (try simp +decide (implicitDefEqProofs := false) only [go_sem, ↓stk_g, ↓stk_c, ↓reduceIte])
    refine stk_callq (mnumber_ok E s2 z2) fun v hv => ?_
    subst hv
    (try simp +decide (implicitDefEqProofs := false) only [go_sem, ↓stk_g, ↓stk_c, ↓reduceIte])
    have hrow2 := hrow.put (o := .cells TM zero15) (show blkOf (.bs g 1 out.length) ≠ some b from fun e => ngb (Option.some.inj e))
    refine stk_pureW ⟨[(37, .v (.int .i64 (numN s0))), (41, .v (.int .i64 (numN s1))), (45, .v (.int .i64 (numN s2))), (48, .v (.string s3)), (9, .v (.pointer (some ⟨b, 0, none⟩))), (4, .sl false 1 (strRows out)), (2, .v (.pointer (some ⟨r, 0, none⟩))), (0, .v (.string s))], (AHeap.none.put r (.cells TM zero15)).put b (.cells TM zero15)⟩ (Weak.list _ (sub_two ((hp_ne _ _ nrb).trans hr) (hp_self _ _ _)) ?_) (mnumber_ok E s3 z3) fun v hv => ?_
    · (try simp +decide (implicitDefEqProofs := false) only [go_sem, ↓stk_g, ↓stk_c, ↓reduceIte])
      exact hrow2.row.fz (strGood out) (fun c hc => by cases hc; exact two_none ngr ngb)
    subst hv
    clear hg hr hrow hrow2 ngr ngb hb hb0
    (try simp +decide (implicitDefEqProofs := false) only [go_sem, ↓stk_g, ↓stk_c, ↓reduceIte, hp_self, hp_hp])
    exact decode_tail L E s out (numN s0) (numN s1) (numN s2) (numN s3) hol h4 hV2 hasm hsm2 nbr _ (by rfl) (by rfl) (by rfl) (by rfl)
  (try simp +decide (implicitDefEqProofs := false) only [go_sem, ↓stk_g, ↓stk_c, ↓reduceIte])
  refine stk_callq (mnumber_ok E s0 z0) fun v hv => ?_
  subst hv
  (try simp +decide (implicitDefEqProofs := false) only [go_sem, ↓stk_g, ↓stk_c, ↓reduceIte])
  refine stk_both ?_ ?_
  rotate_left
  · (try simp +decide (implicitDefEqProofs := false) only [go_sem, ↓stk_g, ↓stk_c, ↓reduceIte])
    rw [stk_alloc]
    intro b hb
    have hb0 : H b = none := hb
    have nbr : b ≠ r := new_ne hr hb0
    have nrb : r ≠ b := nbr.symm
    have ngb : g ≠ b := fun e => by rw [← e, hg] at hb0; cases hb0
    (try simp +decide (implicitDefEqProofs := false) only [go_sem, ↓stk_g, ↓stk_c, ↓reduceIte])
    refine stk_callq (mnumber_ok E s1 z1) fun v hv => ?_
    subst hv
    (try simp +decide (implicitDefEqProofs := false) only [go_sem, ↓stk_g, ↓stk_c, ↓reduceIte])
    refine stk_callq (mnumber_ok E s2 z2) fun v hv => ?_
    subst hv
    (try simp +decide (implicitDefEqProofs := false) only [go_sem, ↓stk_g, ↓stk_c, ↓reduceIte])
    have hrow2 := hrow.put (o := .cells TM zero15) (show blkOf (.bs g 1 out.length) ≠ some b from fun e => ngb (Option.some.inj e))
    refine stk_pureW ⟨[(37, .v (.int .i64 (numN s0))), (41, .v (.int .i64 (numN s1))), (45, .v (.int .i64 (numN s2))), (48, .v (.string s3)), (9, .v (.pointer (some ⟨b, 0, none⟩))), (4, .sl false 1 (strRows out)), (2, .v (.pointer (some ⟨r, 0, none⟩))), (0, .v (.string s))], (AHeap.none.put r (.cells TM zero15)).put b (.cells TM zero15)⟩ (Weak.list _ (sub_two ((hp_ne _ _ nrb).trans hr) (hp_self _ _ _)) ?_) (mnumber_ok E s3 z3) fun v hv => ?_
    · (try simp +decide (implicitDefEqProofs := false) only [go_sem, ↓stk_g, ↓stk_c, ↓reduceIte])
      exact hrow2.row.fz (strGood out) (fun c hc => by cases hc; exact two_none ngr ngb)
    subst hv
    clear hg hr hrow hrow2 ngr ngb hb hb0
    (try simp +decide (implicitDefEqProofs := false) only [go_sem, ↓stk_g, ↓stk_c, ↓reduceIte, hp_self, hp_hp])
    exact decode_tail L E s out (numN s0) (numN s1) (numN s2) (numN s3) hol h4 hV2 hasm hsm2 nbr _ (by rfl) (by rfl) (by rfl) (by rfl)
  (try simp +decide (implicitDefEqProofs := false) only [go_sem, ↓stk_g, ↓stk_c, ↓reduceIte])
  refine stk_callq (mnumber_ok E s1 z1) fun v hv => ?_
  subst hv
  (try simp +decide (implicitDefEqProofs := false) only [go_sem, ↓stk_g, ↓stk_c, ↓reduceIte])
  refine stk_both ?_ ?_
  rotate_left
  · (try simp +decide (implicitDefEqProofs := false) only [go_sem, ↓stk_g, ↓stk_c, ↓reduceIte])
    rw [stk_alloc]
    intro b hb
    have hb0 : H b = none := hb
    have nbr : b ≠ r := new_ne hr hb0
    have nrb : r ≠ b := nbr.symm
    have ngb : g ≠ b := fun e => by rw [← e, hg] at hb0; cases hb0
    (try simp +decide (implicitDefEqProofs := false) only [go_sem, ↓stk_g, ↓stk_c, ↓reduceIte])
    refine stk_callq (mnumber_ok E s2 z2) fun v hv => ?_
    subst hv
    (try simp +decide (implicitDefEqProofs := false) only [go_sem, ↓stk_g, ↓stk_c, ↓reduceIte])
    have hrow2 := hrow.put (o := .cells TM zero15) (show blkOf (.bs g 1 out.length) ≠ some b from fun e => ngb (Option.some.inj e))
    refine stk_pureW ⟨[(37, .v (.int .i64 (numN s0))), (41, .v (.int .i64 (numN s1))), (45, .v (.int .i64 (numN s2))), (48, .v (.string s3)), (9, .v (.pointer (some ⟨b, 0, none⟩))), (4, .sl false 1 (strRows out)), (2, .v (.pointer (some ⟨r, 0, none⟩))), (0, .v (.string s))], (AHeap.none.put r (.cells TM zero15)).put b (.cells TM zero15)⟩ (Weak.list _ (sub_two ((hp_ne _ _ nrb).trans hr) (hp_self _ _ _)) ?_) (mnumber_ok E s3 z3) fun v hv => ?_
    · (try simp +decide (implicitDefEqProofs := false) only [go_sem, ↓stk_g, ↓stk_c, ↓reduceIte])
      exact hrow2.row.fz (strGood out) (fun c hc => by cases hc; exact two_none ngr ngb)
    subst hv
    clear hg hr hrow hrow2 ngr ngb hb hb0
    (try simp +decide (implicitDefEqProofs := false) only [go_sem, ↓stk_g, ↓stk_c, ↓reduceIte, hp_self, hp_hp])
    exact decode_tail L E s out (numN s0) (numN s1) (numN s2) (numN s3) hol h4 hV2 hasm hsm2 nbr _ (by rfl) (by rfl) (by rfl) (by rfl)
  (try simp +decide (implicitDefEqProofs := false) only [go_sem, ↓stk_g, ↓stk_c, ↓reduceIte])
  refine stk_callq (mnumber_ok E s2 z2) fun v hv => ?_
  subst hv
  (try simp +decide (implicitDefEqProofs := false) only [go_sem, ↓stk_g, ↓stk_c, ↓reduceIte])
  refine stk_both ?_ ?_
  rotate_left
  · (try simp +decide (implicitDefEqProofs := false) only [go_sem, ↓stk_g, ↓stk_c, ↓reduceIte])
    rw [stk_alloc]
    intro b hb
    have hb0 : H b = none := hb
    have nbr : b ≠ r := new_ne hr hb0
    have nrb : r ≠ b := nbr.symm
    have ngb : g ≠ b := fun e => by rw [← e, hg] at hb0; cases hb0
    (try simp +decide (implicitDefEqProofs := false) only [go_sem, ↓stk_g, ↓stk_c, ↓reduceIte])
    have hrow2 := hrow.put (o := .cells TM zero15) (show blkOf (.bs g 1 out.length) ≠ some b from fun e => ngb (Option.some.inj e))
    refine stk_pureW ⟨[(37, .v (.int .i64 (numN s0))), (41, .v (.int .i64 (numN s1))), (45, .v (.int .i64 (numN s2))), (48, .v (.string s3)), (9, .v (.pointer (some ⟨b, 0, none⟩))), (4, .sl false 1 (strRows out)), (2, .v (.pointer (some ⟨r, 0, none⟩))), (0, .v (.string s))], (AHeap.none.put r (.cells TM zero15)).put b (.cells TM zero15)⟩ (Weak.list _ (sub_two ((hp_ne _ _ nrb).trans hr) (hp_self _ _ _)) ?_) (mnumber_ok E s3 z3) fun v hv => ?_
    · (try simp +decide (implicitDefEqProofs := false) only [go_sem, ↓stk_g, ↓stk_c, ↓reduceIte])
      exact hrow2.row.fz (strGood out) (fun c hc => by cases hc; exact two_none ngr ngb)
    subst hv
    clear hg hr hrow hrow2 ngr ngb hb hb0
    (try simp +decide (implicitDefEqProofs := false) only [go_sem, ↓stk_g, ↓stk_c, ↓reduceIte, hp_self, hp_hp])
    exact decode_tail L E s out (numN s0) (numN s1) (numN s2) (numN s3) hol h4 hV2 hasm hsm2 nbr _ (by rfl) (by rfl) (by rfl) (by rfl)
  (try simp +decide (implicitDefEqProofs := false) only [go_sem, ↓stk_g, ↓stk_c, ↓reduceIte])
  refine stk_pureW ⟨[(37, .v (.int .i64 (numN s0))), (41, .v (.int .i64 (numN s1))), (45, .v (.int .i64 (numN s2))), (48, .v (.string s3)), (4, .sl false 1 (strRows out)), (2, .v (.pointer (some ⟨r, 0, none⟩))), (0, .v (.string s))], AHeap.none.put r (.cells TM zero15)⟩ (Weak.list _ (sub_one hr) ?_) (mnumber_ok E s3 z3) fun v hv => ?_
  · (try simp +decide (implicitDefEqProofs := false) only [go_sem, ↓stk_g, ↓stk_c, ↓reduceIte])
    exact hrow.row.fz (strGood out) (fun c hc => by cases hc; exact one_none ngr)
  subst hv
  clear hg hr hrow ngr
  (try simp +decide (implicitDefEqProofs := false) only [go_sem, ↓stk_g, ↓stk_c, ↓reduceIte])
  rw [stk_alloc]
  intro b hb
  have nbr : b ≠ r := new_ne (hp_self _ _ _) hb
  have nrb : r ≠ b := nbr.symm
  (try simp +decide (implicitDefEqProofs := false) only [go_sem, ↓stk_g, ↓stk_c, ↓reduceIte, hp_self, hp_hp])
  exact decode_tail L E s out (numN s0) (numN s1) (numN s2) (numN s3) hol h4 hV2 hasm hsm2 nbr _ (by rfl) (by rfl) (by rfl) (by rfl)
end Go.Proofs.YtcplmaffccfbdaaGreatDoor.M
