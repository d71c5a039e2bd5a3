/-
  The document's own Read of layer 8, walked.
-/
import Derived.Test.YtcplmaffccfbdaaGreatDoorPrcut
import Derived.Test.YtcplmaffccfbdaaGreatDoorPr5
namespace Go.Proofs.YtcplmaffccfbdaaGreatDoor.M
open Go.RowKit
attribute [local go_sem] stk_nil stk_skip stk_ops stk_seq stk_block stk_scope stk_exit stk_ret stk_code_exit stk_code_ret stk_ops_exit stk_ops_ret stk_endb stk_endb_exit stk_endb_ret stk_endl stk_endl_exit stk_endl_ret stk_ops_nil stk_q stk_niq niqA flip srcOf stk_bsl side val bside bval uside uval cside cval bndS bndV intA isInt lside lval fside fval faside faval iside ival sxside sxval sizeA slside slval llside llval lenside lenval lenA tupA mmside mmval nkside boolA isBool ev_t ev_c tget put_s put_n lkside lkval menval stk_mk Option.isSome_some isMapA mapA keyA FZ_rfl FZ_any retOf true_and and_true if_true if_false decide_true decide_false Bool.not_true Bool.not_false Nat.zero_add List.map_cons List.map_nil Int.toNat_natCast strRows_len intRows_len List.getD_cons_zero List.getD_cons_succ List.length_cons List.length_nil List.forall_mem_cons List.not_mem_nil false_implies implies_true Int.ofNat_zero Int.natCast_add Int.natCast_one Int.ofNat_one Int.natCast_zero isB isU Bool.false_eq_true beq_self_eq_true Bool.false_beq Bool.true_beq Int.natCast_nonneg undef strRows_take strRows_drop Int.toNat_zero List.drop_zero Bool.and_true oneOr List.all_cons List.all_nil AVal.one Value.oneCell' Bool.true_and List.take_length stk_st' stside stH hp_self hp_hp isnside isnval lay List.take_succ_cons List.take_zero List.drop_succ_cons List.nil_append List.cons_append Option.getD_some List.append_nil and_self
set_option linter.unusedVariables false
set_option linter.unusedSimpArgs false
def rreadP (s : Str) : Pol := foldG rnumP s pol0
def rreadR (s : Str) : AVal := if rightP (rreadP s) = true ∧ textP (rreadP s) = s then .tup [.agg (polCells (rreadP s)), .v (.int .i64 0)] else .tup [.agg (polCells pol0), .v (.int .i64 2)]
theorem Small.takenG {num : Str → Int} {p : Pol} {n m : Nat} (h : Small p n m) {ws : List Str} (hw : ∀ s ∈ ws, s.size ≤ m) : Small (takenG num p ws) (n + 1) m := by
  have k := h.up
  have w1 := getD_size hw 1
  unfold M.takenG
  dsimp only
  split
  · exact ⟨k.elems, k.attrs, k.schemes, k.classes, k.props, k.elemz, k.attrz, k.schemez, k.classez, k.propz⟩
  split
  · exact k
  split
  · exact ⟨k.elems, k.attrs, k.schemes, k.classes, k.props, k.elemz, k.attrz, k.schemez, k.classez, k.propz⟩
  split
  · exact ⟨len_snoc h.elems, k.attrs, k.schemes, k.classes, k.props, mem_snoc k.elemz w1, k.attrz, k.schemez, k.classez, k.propz⟩
  split
  · exact ⟨k.elems, len_snoc h.attrs, k.schemes, k.classes, k.props, k.elemz, mem_snoc k.attrz w1, k.schemez, k.classez, k.propz⟩
  split
  · exact ⟨k.elems, k.attrs, len_snoc h.schemes, k.classes, k.props, k.elemz, k.attrz, mem_snoc k.schemez w1, k.classez, k.propz⟩
  split
  · exact ⟨k.elems, k.attrs, k.schemes, len_snoc h.classes, k.props, k.elemz, k.attrz, k.schemez, mem_snoc k.classez w1, k.propz⟩
  split
  · exact ⟨k.elems, k.attrs, k.schemes, k.classes, len_snoc h.props, k.elemz, k.attrz, k.schemez, k.classez, mem_snoc k.propz w1⟩
  · exact k
theorem foldG_small {num : Str → Int} {m : Nat} : ∀ (ls : List Str) (p : Pol) (n : Nat), (∀ l ∈ ls, l.size ≤ m) → Small p n m → Small (ls.foldl (fun p l => takenG num p (splitS l spS)) p) (n + ls.length) m
  | [], p, n, _, h => h
  | l :: ls, p, n, hl, h => by
    have := foldG_small (num := num) ls (takenG num p (splitS l spS)) (n + 1) (fun x hx => hl x (by simp [hx])) (h.takenG fun x hx => Nat.le_trans (splitS_size hx) (hl l (by simp)))
    rw [List.length_cons, show n + (ls.length + 1) = n + 1 + ls.length by omega]
    exact this
def c_rRead : AFn := ⟨1, 124, [124, 3],
  .seq (.ops [⟨(some 2), none, .e (.alloc 25 [(.int .i64 0), (.slice none 0 0), (.slice none 0 0), (.slice none 0 0), (.slice none 0 0), (.slice none 0 0), (.int .i64 0), (.int .i64 0), (.int .i64 0)])⟩,
      ⟨(some 3), none, .q (.mv (.const (.int .i64 0)))⟩])
  (.seq (.ops [⟨(some 4), none, .e (.alloc 25 [(.int .i64 0), (.slice none 0 0), (.slice none 0 0), (.slice none 0 0), (.slice none 0 0), (.slice none 0 0), (.int .i64 0), (.int .i64 0), (.int .i64 0)])⟩])
  (.seq (.ops [⟨(some 10), none, .q (.mv (.tmp 0))⟩,
      ⟨(some 11), none, .e (.call 58 [(.tmp 10), (.const (.int .u8 10))])⟩,
      ⟨(some 5), none, .q (.mv (.tmp 11))⟩])
  (.seq (.seq (.ops [⟨(some 6), none, .q (.mv (.const (.int .i64 0)))⟩])
  (.block 0 (.loop (.seq (.seq (.ops [⟨(some 12), none, .q (.mv (.tmp 6))⟩,
          ⟨(some 13), none, .q (.mv (.tmp 5))⟩,
          ⟨(some 14), none, .q (.len false (.tmp 13))⟩,
          ⟨(some 15), none, .q (.bin .lss .num (.tmp 12) (.tmp 14))⟩])
      (.cond (.tmp 15)
        (.skip)
        (.exit 0)))
      (.seq (.block 1 (.seq (.ops [⟨(some 18), none, .q (.mv (.tmp 5))⟩,
            ⟨(some 19), none, .q (.mv (.tmp 6))⟩,
            ⟨(some 20), none, .q (.ixa 1 (.tmp 18) (.tmp 19))⟩,
            ⟨(some 21), none, .q (.ld false 1 (.tmp 20))⟩,
            ⟨(some 22), none, .e (.call 58 [(.tmp 21), (.const (.int .u8 32))])⟩,
            ⟨(some 7), none, .q (.mv (.tmp 22))⟩])
        (.seq (.seq (.ops [⟨(some 23), none, .q (.mv (.tmp 7))⟩,
            ⟨(some 24), none, .q (.len false (.tmp 23))⟩,
            ⟨(some 25), none, .q (.bin .eql .num (.tmp 24) (.const (.int .i64 4)))⟩,
            ⟨(some 26), none, .q (.mv (.tmp 25))⟩,
            ⟨(some 27), (some (26, true)), .q (.mv (.tmp 7))⟩,
            ⟨(some 28), (some (26, true)), .q (.ixa 1 (.tmp 27) (.const (.int .i64 0)))⟩,
            ⟨(some 29), (some (26, true)), .q (.ld false 1 (.tmp 28))⟩,
            ⟨(some 30), (some (26, true)), .q (.bin .eql .num (.tmp 29) (.const (.string ⟨#[99, 97, 112, 115]⟩)))⟩,
            ⟨(some 31), none, .q (.pick (.tmp 26) (.tmp 30) (.const (.bool false)))⟩])
        (.cond (.tmp 31)
          (.seq (.ops [⟨(some 32), none, .q (.mv (.tmp 7))⟩,
              ⟨(some 33), none, .q (.ixa 1 (.tmp 32) (.const (.int .i64 1)))⟩,
              ⟨(some 34), none, .q (.ld false 1 (.tmp 33))⟩,
              ⟨(some 35), none, .e (.call 59 [(.tmp 34)])⟩,
              ⟨(some 36), none, .q (.fad 6 1 (.tmp 4))⟩,
              ⟨none, none, .e (.st 1 (.tmp 36) (.tmp 35))⟩])
          (.seq (.ops [⟨(some 37), none, .q (.mv (.tmp 7))⟩,
              ⟨(some 38), none, .q (.ixa 1 (.tmp 37) (.const (.int .i64 2)))⟩,
              ⟨(some 39), none, .q (.ld false 1 (.tmp 38))⟩,
              ⟨(some 40), none, .e (.call 59 [(.tmp 39)])⟩,
              ⟨(some 41), none, .q (.fad 7 1 (.tmp 4))⟩,
              ⟨none, none, .e (.st 1 (.tmp 41) (.tmp 40))⟩])
          (.ops [⟨(some 42), none, .q (.mv (.tmp 7))⟩,
              ⟨(some 43), none, .q (.ixa 1 (.tmp 42) (.const (.int .i64 3)))⟩,
              ⟨(some 44), none, .q (.ld false 1 (.tmp 43))⟩,
              ⟨(some 45), none, .e (.call 59 [(.tmp 44)])⟩,
              ⟨(some 46), none, .q (.fad 8 1 (.tmp 4))⟩,
              ⟨none, none, .e (.st 1 (.tmp 46) (.tmp 45))⟩])))
          (.skip)))
        (.seq (.seq (.ops [⟨(some 47), none, .q (.mv (.tmp 7))⟩,
            ⟨(some 48), none, .q (.len false (.tmp 47))⟩,
            ⟨(some 49), none, .q (.bin .neq .num (.tmp 48) (.const (.int .i64 2)))⟩])
        (.cond (.tmp 49)
          (.exit 1)
          (.skip)))
        (.seq (.ops [⟨(some 50), none, .q (.mv (.tmp 7))⟩,
            ⟨(some 51), none, .q (.ixa 1 (.tmp 50) (.const (.int .i64 0)))⟩,
            ⟨(some 52), none, .q (.ld false 1 (.tmp 51))⟩])
        (.block 2 (.seq (.ops [⟨(some 54), none, .q (.bin .eql .num (.tmp 52) (.const (.string ⟨#[101, 112, 111, 99, 104]⟩)))⟩,
              ⟨(some 53), none, .q (.mv (.tmp 54))⟩])
          (.cond (.tmp 53)
            (.ops [⟨(some 55), none, .q (.mv (.tmp 7))⟩,
                ⟨(some 56), none, .q (.ixa 1 (.tmp 55) (.const (.int .i64 1)))⟩,
                ⟨(some 57), none, .q (.ld false 1 (.tmp 56))⟩,
                ⟨(some 58), none, .e (.call 59 [(.tmp 57)])⟩,
                ⟨(some 59), none, .q (.fad 0 1 (.tmp 4))⟩,
                ⟨none, none, .e (.st 1 (.tmp 59) (.tmp 58))⟩])
            (.seq (.ops [⟨(some 61), none, .q (.bin .eql .num (.tmp 52) (.const (.string ⟨#[101, 108, 101, 109]⟩)))⟩,
                ⟨(some 60), none, .q (.mv (.tmp 61))⟩])
            (.cond (.tmp 60)
              (.ops [⟨(some 62), none, .q (.fad 1 1 (.tmp 4))⟩,
                  ⟨(some 63), none, .q (.ld false 1 (.tmp 62))⟩,
                  ⟨(some 64), none, .q (.mv (.tmp 7))⟩,
                  ⟨(some 65), none, .q (.ixa 1 (.tmp 64) (.const (.int .i64 1)))⟩,
                  ⟨(some 66), none, .q (.ld false 1 (.tmp 65))⟩,
                  ⟨(some 67), none, .e (.bsl 9 1 [(.tmp 66)])⟩,
                  ⟨(some 68), none, .e (.app 9 1 16 false (.tmp 63) (.tmp 67))⟩,
                  ⟨(some 69), none, .q (.fad 1 1 (.tmp 4))⟩,
                  ⟨none, none, .e (.st 1 (.tmp 69) (.tmp 68))⟩])
              (.seq (.ops [⟨(some 71), none, .q (.bin .eql .num (.tmp 52) (.const (.string ⟨#[97, 116, 116, 114]⟩)))⟩,
                  ⟨(some 70), none, .q (.mv (.tmp 71))⟩])
              (.cond (.tmp 70)
                (.ops [⟨(some 72), none, .q (.fad 2 1 (.tmp 4))⟩,
                    ⟨(some 73), none, .q (.ld false 1 (.tmp 72))⟩,
                    ⟨(some 74), none, .q (.mv (.tmp 7))⟩,
                    ⟨(some 75), none, .q (.ixa 1 (.tmp 74) (.const (.int .i64 1)))⟩,
                    ⟨(some 76), none, .q (.ld false 1 (.tmp 75))⟩,
                    ⟨(some 77), none, .e (.bsl 9 1 [(.tmp 76)])⟩,
                    ⟨(some 78), none, .e (.app 9 1 16 false (.tmp 73) (.tmp 77))⟩,
                    ⟨(some 79), none, .q (.fad 2 1 (.tmp 4))⟩,
                    ⟨none, none, .e (.st 1 (.tmp 79) (.tmp 78))⟩])
                (.seq (.ops [⟨(some 81), none, .q (.bin .eql .num (.tmp 52) (.const (.string ⟨#[115, 99, 104, 101, 109, 101]⟩)))⟩,
                    ⟨(some 80), none, .q (.mv (.tmp 81))⟩])
                (.cond (.tmp 80)
                  (.ops [⟨(some 82), none, .q (.fad 3 1 (.tmp 4))⟩,
                      ⟨(some 83), none, .q (.ld false 1 (.tmp 82))⟩,
                      ⟨(some 84), none, .q (.mv (.tmp 7))⟩,
                      ⟨(some 85), none, .q (.ixa 1 (.tmp 84) (.const (.int .i64 1)))⟩,
                      ⟨(some 86), none, .q (.ld false 1 (.tmp 85))⟩,
                      ⟨(some 87), none, .e (.bsl 9 1 [(.tmp 86)])⟩,
                      ⟨(some 88), none, .e (.app 9 1 16 false (.tmp 83) (.tmp 87))⟩,
                      ⟨(some 89), none, .q (.fad 3 1 (.tmp 4))⟩,
                      ⟨none, none, .e (.st 1 (.tmp 89) (.tmp 88))⟩])
                  (.seq (.ops [⟨(some 91), none, .q (.bin .eql .num (.tmp 52) (.const (.string ⟨#[99, 108, 97, 115, 115]⟩)))⟩,
                      ⟨(some 90), none, .q (.mv (.tmp 91))⟩])
                  (.cond (.tmp 90)
                    (.ops [⟨(some 92), none, .q (.fad 4 1 (.tmp 4))⟩,
                        ⟨(some 93), none, .q (.ld false 1 (.tmp 92))⟩,
                        ⟨(some 94), none, .q (.mv (.tmp 7))⟩,
                        ⟨(some 95), none, .q (.ixa 1 (.tmp 94) (.const (.int .i64 1)))⟩,
                        ⟨(some 96), none, .q (.ld false 1 (.tmp 95))⟩,
                        ⟨(some 97), none, .e (.bsl 9 1 [(.tmp 96)])⟩,
                        ⟨(some 98), none, .e (.app 9 1 16 false (.tmp 93) (.tmp 97))⟩,
                        ⟨(some 99), none, .q (.fad 4 1 (.tmp 4))⟩,
                        ⟨none, none, .e (.st 1 (.tmp 99) (.tmp 98))⟩])
                    (.seq (.ops [⟨(some 101), none, .q (.bin .eql .num (.tmp 52) (.const (.string ⟨#[112, 114, 111, 112]⟩)))⟩,
                        ⟨(some 100), none, .q (.mv (.tmp 101))⟩])
                    (.cond (.tmp 100)
                      (.ops [⟨(some 102), none, .q (.fad 5 1 (.tmp 4))⟩,
                          ⟨(some 103), none, .q (.ld false 1 (.tmp 102))⟩,
                          ⟨(some 104), none, .q (.mv (.tmp 7))⟩,
                          ⟨(some 105), none, .q (.ixa 1 (.tmp 104) (.const (.int .i64 1)))⟩,
                          ⟨(some 106), none, .q (.ld false 1 (.tmp 105))⟩,
                          ⟨(some 107), none, .e (.bsl 9 1 [(.tmp 106)])⟩,
                          ⟨(some 108), none, .e (.app 9 1 16 false (.tmp 103) (.tmp 107))⟩,
                          ⟨(some 109), none, .q (.fad 5 1 (.tmp 4))⟩,
                          ⟨none, none, .e (.st 1 (.tmp 109) (.tmp 108))⟩])
                      (.skip)))))))))))))))))))
      (.ops [⟨(some 16), none, .q (.mv (.tmp 6))⟩,
          ⟨(some 17), none, .q (.bin .add .num (.tmp 16) (.const (.int .i64 1)))⟩,
          ⟨(some 6), none, .q (.mv (.tmp 17))⟩]))))))
  (.seq (.ops [⟨(some 111), none, .q (.ld true 9 (.tmp 4))⟩,
      ⟨(some 112), none, .e (.call 19 [(.tmp 111)])⟩,
      ⟨(some 110), none, .q (.mv (.tmp 112))⟩,
      ⟨(some 113), none, .q (.ext (.tmp 110) 0)⟩,
      ⟨(some 114), none, .q (.ext (.tmp 110) 1)⟩,
      ⟨(some 8), none, .q (.mv (.tmp 113))⟩,
      ⟨(some 9), none, .q (.mv (.tmp 114))⟩])
  (.seq (.seq (.ops [⟨(some 115), none, .q (.mv (.tmp 9))⟩,
      ⟨(some 116), none, .q (.bin .neq .num (.tmp 115) (.const (.int .i64 0)))⟩,
      ⟨(some 117), none, .q (.mv (.tmp 116))⟩,
      ⟨(some 118), (some (117, false)), .q (.mv (.tmp 8))⟩,
      ⟨(some 119), (some (117, false)), .q (.mv (.tmp 0))⟩,
      ⟨(some 120), (some (117, false)), .q (.bin .neq .num (.tmp 118) (.tmp 119))⟩,
      ⟨(some 121), none, .q (.pick (.tmp 117) (.const (.bool true)) (.tmp 120))⟩])
  (.cond (.tmp 121)
    (.seq (.ops [⟨(some 122), none, .q (.bld [(.int .i64 0), (.slice none 0 0), (.slice none 0 0), (.slice none 0 0), (.slice none 0 0), (.slice none 0 0), (.int .i64 0), (.int .i64 0), (.int .i64 0)] [])⟩,
        ⟨none, none, .e (.st 9 (.tmp 2) (.tmp 122))⟩,
        ⟨(some 3), none, .q (.mv (.const (.int .i64 2)))⟩])
    (.ret))
    (.skip)))
  (.seq (.ops [⟨(some 123), none, .q (.ld true 9 (.tmp 4))⟩,
      ⟨none, none, .e (.st 9 (.tmp 2) (.tmp 123))⟩,
      ⟨(some 3), none, .q (.mv (.const (.int .i64 0)))⟩])
  (.ret))))))), [(124, (2, (true, 9)))]⟩
theorem k_rRead : compF Tryz.prog 33 = some c_rRead := by kernel_rfl
set_option maxHeartbeats 16000000 in
theorem rread_ok {W : World} (s : Str) (hs : s.size ≤ 19000) : ACalls Tryz.prog W 33 [.v (.string s)] AHeap.none fun v _ => v = rreadR s := by
  refine fn_run follows k_rRead rfl ?_
  simp only [c_rRead, aretC_nil, List.zipIdx_cons, List.zipIdx_nil, List.map_cons, List.map_nil, Nat.zero_add]
  (try simp +decide (implicitDefEqProofs := false) only [go_sem, ↓stk_g, ↓stk_c, ↓reduceIte])
  rw [stk_alloc]
  intro r hr
  (try simp +decide (implicitDefEqProofs := false) only [go_sem, ↓stk_g, ↓stk_c, ↓reduceIte])
  rw [stk_alloc]
  intro g hg
  have ngr := new_ne (hp_self _ _ _) hg
  (try simp +decide (implicitDefEqProofs := false) only [go_sem, ↓stk_g, ↓stk_c, ↓reduceIte])
  refine stk_pure (rcut_ok s 10 10 rfl (by omega)) fun v hv => ?_
  subst hv
  have hlen := splitS_len_le (s := s) (sep := ch 10) (by decide)
  have hsz : ∀ l ∈ splitS s (ch 10), l.size ≤ s.size := fun l hl => splitS_size hl
  have hread : rreadP s = (splitS s (ch 10)).foldl (fun p l => takenG rnumP p (splitS l spS)) pol0 := rfl
  generalize splitS s (ch 10) = ls at hlen hsz hread
  (try simp +decide (implicitDefEqProofs := false) only [go_sem, ↓stk_g, ↓stk_c, ↓reduceIte])
  refine stk_up (α := AHeap) ls.length (fun i H => ⟨[(6, .v (.int .i64 i)), (5, .sl false 1 (strRows ls)), (4, .v (.pointer (some ⟨g, 0, none⟩))), (2, .v (.pointer (some ⟨r, 0, none⟩))), (0, .v (.string s))], H⟩) (fun i H => (∃ x1 x2 x3 x4 x5, PolH H g ((ls.take i).foldl (fun p l => takenG rnumP p (splitS l spS)) pol0) x1 x2 x3 x4 x5) ∧ H r = some (.cells 25 zeroCells)) _ (Weak.list _ (Sub.refl _) (by (try simp +decide (implicitDefEqProofs := false) only [go_sem, ↓stk_g, ↓stk_c, ↓reduceIte]))) ?_ ?_
  · refine ⟨⟨_, _, _, _, _, hp_self _ _ _, .nil, .nil, .nil, .nil, .nil, ?_, ?_, ?_, ?_, ?_, ?_, ?_, ?_, ?_, ?_⟩, (hp_ne _ _ (Ne.symm ngr)).trans (hp_self _ _ _)⟩
    all_goals (intro c hc; cases hc)
  clear hr hg
  rintro i H hi ⟨⟨x1, x2, x3, x4, x5, hP⟩, hr⟩
  have hsm := foldG_small (num := rnumP) (m := s.size) (ls.take i) pol0 0 (fun l hl => hsz l (List.mem_of_mem_take hl)) (pol0_small _ _)
  rw [List.length_take, Nat.zero_add] at hsm
  by_cases hlt : i < ls.length
  · have g1 : (i : Int) < (ls.length : Int) := by omega
    have hw := wrap_in (n := (i : Int) + 1) (by omega) (by omega)
    have hgt := strRows_get hlt
    have hget : ls.getD i ByteArray.empty = ls[i] := by simp [hlt]
    have hlz := hsz (ls.getD i ByteArray.empty) (by rw [hget]; exact List.getElem_mem _)
    have hfold : (ls.take (i + 1)).foldl (fun p l => takenG rnumP p (splitS l spS)) pol0 = takenG rnumP ((ls.take i).foldl (fun p l => takenG rnumP p (splitS l spS)) pol0) (splitS (ls.getD i ByteArray.empty) spS) := by
      rw [List.take_succ_eq_append_getElem hlt, List.foldl_append, hget]; rfl
    rw [hfold]
    generalize (ls.take i).foldl (fun p l => takenG rnumP p (splitS l spS)) pol0 = p at hP hsm ⊢
    generalize ls.getD i ByteArray.empty = l at hgt hlz ⊢
    (try simp +decide (implicitDefEqProofs := false) only [go_sem, ↓stk_g, ↓stk_c, ↓reduceIte, g1, hlt, hgt])
    refine stk_pure (rcut_ok l 32 32 rfl (by omega)) fun v hv => ?_
    subst hv
    rw [show ch 32 = spS from rfl]
    have hw1 := splitS_len_le (s := l) (sep := spS) (by decide)
    have hz : ∀ x ∈ splitS l spS, x.size ≤ 1000000 := fun x hx => by have := splitS_size hx; omega
    generalize splitS l spS = ws at hw1 hz ⊢
    have hzz : ∀ j, j < ws.length → (ws.getD j ByteArray.empty).size ≤ 1000000 := fun j hj => by
      have e : ws.getD j ByteArray.empty = ws[j] := by simp [hj]
      rw [e]; exact hz _ (List.getElem_mem _)
    have b1 := hsm.elems
    have b2 := hsm.attrs
    have b3 := hsm.schemes
    have b4 := hsm.classes
    have b5 := hsm.props
    have hhere := hP.here
    have t1 : (1 : Int).toNat = 1 := rfl
    have t2 : (2 : Int).toNat = 2 := rfl
    have t3 : (3 : Int).toNat = 3 := rfl
    have hK0 : Keeps H H g := fun c T cs h _ => h
    by_cases l4 : ws.length = 4
    · have d4 : decide ((ws.length : Int) = 4) = true := decide_eq_true (by omega)
      have d2 : decide ((ws.length : Int) ≠ 2) = true := decide_eq_true (by omega)
      have i0 : (0 : Int) < (ws.length : Int) := by omega
      have i1 : (1 : Int) < (ws.length : Int) := by omega
      have i2 : (2 : Int) < (ws.length : Int) := by omega
      have i3 : (3 : Int) < (ws.length : Int) := by omega
      have g0 := strRows_get (l := ws) (i := 0) (by omega)
      have q1 := strRows_get (l := ws) (i := 1) (by omega)
      have q2 := strRows_get (l := ws) (i := 2) (by omega)
      have q3 := strRows_get (l := ws) (i := 3) (by omega)
      by_cases w0 : ws.getD 0 ByteArray.empty = (⟨#[99, 97, 112, 115]⟩ : Str)
      · have e0 : decide (ws.getD 0 ByteArray.empty = ((⟨#[99, 97, 112, 115]⟩ : ByteArray))) = true := decide_eq_true w0
        have ht : takenG rnumP p ws = { p with depth := rnumP (ws.getD 1 ByteArray.empty), nodes := rnumP (ws.getD 2 ByteArray.empty), bytes := rnumP (ws.getD 3 ByteArray.empty) } := by
          unfold takenG; rw [if_pos ⟨l4, w0⟩]
        rw [ht]
        (try simp +decide (implicitDefEqProofs := false) only [go_sem, ↓stk_g, ↓stk_c, ↓reduceIte, d4, d2, i0, i1, i2, i3, t1, t2, t3, g0, q1, q2, q3, e0, hhere])
        refine stk_pure (rnumber_ok _ (hzz 1 (by omega))) fun v hv => ?_
        subst hv
        (try simp +decide (implicitDefEqProofs := false) only [go_sem, ↓stk_g, ↓stk_c, ↓reduceIte, d4, d2, i0, i1, i2, i3, t1, t2, t3, g0, q1, q2, q3, e0, hhere, hp_self])
        refine stk_pure (rnumber_ok _ (hzz 2 (by omega))) fun v hv => ?_
        subst hv
        (try simp +decide (implicitDefEqProofs := false) only [go_sem, ↓stk_g, ↓stk_c, ↓reduceIte, d4, d2, i0, i1, i2, i3, t1, t2, t3, g0, q1, q2, q3, e0, hhere, hp_self])
        refine stk_pure (rnumber_ok _ (hzz 3 (by omega))) fun v hv => ?_
        subst hv
        (try simp +decide (implicitDefEqProofs := false) only [go_sem, ↓stk_g, ↓stk_c, ↓reduceIte, d4, d2, i0, i1, i2, i3, t1, t2, t3, g0, q1, q2, q3, e0, hhere, hp_self, hw])
        exact ⟨_, Weak.list _ (Sub.refl _) (by (try simp +decide (implicitDefEqProofs := false) only [go_sem, ↓stk_g, ↓stk_c, ↓reduceIte])), ⟨x1, x2, x3, x4, x5, hP.nums _ _ _ _⟩, hK0.put r _ _ hr (Ne.symm ngr)⟩
      · have e0 : decide (ws.getD 0 ByteArray.empty = ((⟨#[99, 97, 112, 115]⟩ : ByteArray))) = false := decide_eq_false w0
        have ht : takenG rnumP p ws = p := by
          unfold takenG; rw [if_neg (fun h => w0 h.2), if_pos (by omega)]
        rw [ht]
        (try simp +decide (implicitDefEqProofs := false) only [go_sem, ↓stk_g, ↓stk_c, ↓reduceIte, d4, d2, i0, g0, e0, hw])
        exact ⟨_, Weak.list _ (Sub.refl _) (by (try simp +decide (implicitDefEqProofs := false) only [go_sem, ↓stk_g, ↓stk_c, ↓reduceIte])), ⟨x1, x2, x3, x4, x5, hP⟩, hr⟩
    have d4 : decide ((ws.length : Int) = 4) = false := decide_eq_false (by omega)
    by_cases l2 : ws.length = 2
    rotate_left
    · have d2 : decide ((ws.length : Int) ≠ 2) = true := decide_eq_true (by omega)
      have ht : takenG rnumP p ws = p := by
        unfold takenG; rw [if_neg (fun h => l4 h.1), if_pos l2]
      rw [ht]
      (try simp +decide (implicitDefEqProofs := false) only [go_sem, ↓stk_g, ↓stk_c, ↓reduceIte, d4, d2, hw])
      exact ⟨_, Weak.list _ (Sub.refl _) (by (try simp +decide (implicitDefEqProofs := false) only [go_sem, ↓stk_g, ↓stk_c, ↓reduceIte])), ⟨x1, x2, x3, x4, x5, hP⟩, hr⟩
    have d2 : decide ((ws.length : Int) ≠ 2) = false := by simp; omega
    have i0 : (0 : Int) < (ws.length : Int) := by omega
    have i1 : (1 : Int) < (ws.length : Int) := by omega
    have g0 := strRows_get (l := ws) (i := 0) (by omega)
    have q1 := strRows_get (l := ws) (i := 1) (by omega)
    by_cases w0 : ws.getD 0 ByteArray.empty = (⟨#[101, 112, 111, 99, 104]⟩ : Str)
    · have e0 : decide (ws.getD 0 ByteArray.empty = ((⟨#[101, 112, 111, 99, 104]⟩ : ByteArray))) = true := decide_eq_true w0
      have ht : takenG rnumP p ws = { p with epoch := rnumP (ws.getD 1 ByteArray.empty) } := by
        unfold takenG; rw [if_neg (fun h => l4 h.1), if_neg (by omega), if_pos w0]
      rw [ht]
      (try simp +decide (implicitDefEqProofs := false) only [go_sem, ↓stk_g, ↓stk_c, ↓reduceIte, d4, d2, i0, i1, t1, g0, q1, e0, hhere])
      refine stk_pure (rnumber_ok _ (hzz 1 (by omega))) fun v hv => ?_
      subst hv
      (try simp +decide (implicitDefEqProofs := false) only [go_sem, ↓stk_g, ↓stk_c, ↓reduceIte, hhere, hp_self, hw])
      exact ⟨_, Weak.list _ (Sub.refl _) (by (try simp +decide (implicitDefEqProofs := false) only [go_sem, ↓stk_g, ↓stk_c, ↓reduceIte])), ⟨x1, x2, x3, x4, x5, hP.nums _ _ _ _⟩, hK0.put r _ _ hr (Ne.symm ngr)⟩
    have e0 : decide (ws.getD 0 ByteArray.empty = ((⟨#[101, 112, 111, 99, 104]⟩ : ByteArray))) = false := decide_eq_false w0
    by_cases w1 : ws.getD 0 ByteArray.empty = (⟨#[101, 108, 101, 109]⟩ : Str)
    · have e1 : decide (ws.getD 0 ByteArray.empty = ((⟨#[101, 108, 101, 109]⟩ : ByteArray))) = true := decide_eq_true w1
      have ht : takenG rnumP p ws = { p with elems := p.elems ++ [ws.getD 1 ByteArray.empty] } := by
        unfold takenG; rw [if_neg (fun h => l4 h.1), if_neg (by omega), if_neg w0, if_pos w1]
      rw [ht]
      have hxb := hP.r1.notC hhere
      obtain rfl | ⟨c, m, rfl⟩ := hP.r1.shape
      all_goals (
        (try simp +decide (implicitDefEqProofs := false) only [go_sem, ↓stk_g, ↓stk_c, ↓reduceIte, d4, d2, i0, i1, t1, g0, q1, e0, e1, hhere])
        refine stk_appX (rows := strRows p.elems) (new := [[.v (.string (ws.getD 1 ByteArray.empty))]]) hP.r1 (by rfl) (by simp only [strRows_len, List.length_cons, List.length_nil]; omega) fun y H2 hy hrs hf => ?_
        have hg2 := hrs g _ hhere hxb
        have hfin := hP.app1 hy hrs hf
        have hK2 := hK0.rest hP.r1 hrs
        obtain rfl | ⟨c2, m2, rfl⟩ := hy.shape
        all_goals (
          (try simp +decide (implicitDefEqProofs := false) only [go_sem, ↓stk_g, ↓stk_c, ↓reduceIte, hg2, hp_self, hw])
          exact ⟨_, Weak.list _ (Sub.refl _) (by (try simp +decide (implicitDefEqProofs := false) only [go_sem, ↓stk_g, ↓stk_c, ↓reduceIte])), ⟨_, _, _, _, _, hfin⟩, hK2.put r _ _ hr (Ne.symm ngr)⟩))
    have e1 : decide (ws.getD 0 ByteArray.empty = ((⟨#[101, 108, 101, 109]⟩ : ByteArray))) = false := decide_eq_false w1
    by_cases w2 : ws.getD 0 ByteArray.empty = (⟨#[97, 116, 116, 114]⟩ : Str)
    · have e2 : decide (ws.getD 0 ByteArray.empty = ((⟨#[97, 116, 116, 114]⟩ : ByteArray))) = true := decide_eq_true w2
      have ht : takenG rnumP p ws = { p with attrs := p.attrs ++ [ws.getD 1 ByteArray.empty] } := by
        unfold takenG; rw [if_neg (fun h => l4 h.1), if_neg (by omega), if_neg w0, if_neg w1, if_pos w2]
      rw [ht]
      have hxb := hP.r2.notC hhere
      obtain rfl | ⟨c, m, rfl⟩ := hP.r2.shape
      all_goals (
        (try simp +decide (implicitDefEqProofs := false) only [go_sem, ↓stk_g, ↓stk_c, ↓reduceIte, d4, d2, i0, i1, t1, g0, q1, e0, e1, e2, hhere])
        refine stk_appX (rows := strRows p.attrs) (new := [[.v (.string (ws.getD 1 ByteArray.empty))]]) hP.r2 (by rfl) (by simp only [strRows_len, List.length_cons, List.length_nil]; omega) fun y H2 hy hrs hf => ?_
        have hg2 := hrs g _ hhere hxb
        have hfin := hP.app2 hy hrs hf
        have hK2 := hK0.rest hP.r2 hrs
        obtain rfl | ⟨c2, m2, rfl⟩ := hy.shape
        all_goals (
          (try simp +decide (implicitDefEqProofs := false) only [go_sem, ↓stk_g, ↓stk_c, ↓reduceIte, hg2, hp_self, hw])
          exact ⟨_, Weak.list _ (Sub.refl _) (by (try simp +decide (implicitDefEqProofs := false) only [go_sem, ↓stk_g, ↓stk_c, ↓reduceIte])), ⟨_, _, _, _, _, hfin⟩, hK2.put r _ _ hr (Ne.symm ngr)⟩))
    have e2 : decide (ws.getD 0 ByteArray.empty = ((⟨#[97, 116, 116, 114]⟩ : ByteArray))) = false := decide_eq_false w2
    by_cases w3 : ws.getD 0 ByteArray.empty = (⟨#[115, 99, 104, 101, 109, 101]⟩ : Str)
    · have e3 : decide (ws.getD 0 ByteArray.empty = ((⟨#[115, 99, 104, 101, 109, 101]⟩ : ByteArray))) = true := decide_eq_true w3
      have ht : takenG rnumP p ws = { p with schemes := p.schemes ++ [ws.getD 1 ByteArray.empty] } := by
        unfold takenG; rw [if_neg (fun h => l4 h.1), if_neg (by omega), if_neg w0, if_neg w1, if_neg w2, if_pos w3]
      rw [ht]
      have hxb := hP.r3.notC hhere
      obtain rfl | ⟨c, m, rfl⟩ := hP.r3.shape
      all_goals (
        (try simp +decide (implicitDefEqProofs := false) only [go_sem, ↓stk_g, ↓stk_c, ↓reduceIte, d4, d2, i0, i1, t1, g0, q1, e0, e1, e2, e3, hhere])
        refine stk_appX (rows := strRows p.schemes) (new := [[.v (.string (ws.getD 1 ByteArray.empty))]]) hP.r3 (by rfl) (by simp only [strRows_len, List.length_cons, List.length_nil]; omega) fun y H2 hy hrs hf => ?_
        have hg2 := hrs g _ hhere hxb
        have hfin := hP.app3 hy hrs hf
        have hK2 := hK0.rest hP.r3 hrs
        obtain rfl | ⟨c2, m2, rfl⟩ := hy.shape
        all_goals (
          (try simp +decide (implicitDefEqProofs := false) only [go_sem, ↓stk_g, ↓stk_c, ↓reduceIte, hg2, hp_self, hw])
          exact ⟨_, Weak.list _ (Sub.refl _) (by (try simp +decide (implicitDefEqProofs := false) only [go_sem, ↓stk_g, ↓stk_c, ↓reduceIte])), ⟨_, _, _, _, _, hfin⟩, hK2.put r _ _ hr (Ne.symm ngr)⟩))
    have e3 : decide (ws.getD 0 ByteArray.empty = ((⟨#[115, 99, 104, 101, 109, 101]⟩ : ByteArray))) = false := decide_eq_false w3
    by_cases w4 : ws.getD 0 ByteArray.empty = (⟨#[99, 108, 97, 115, 115]⟩ : Str)
    · have e4 : decide (ws.getD 0 ByteArray.empty = ((⟨#[99, 108, 97, 115, 115]⟩ : ByteArray))) = true := decide_eq_true w4
      have ht : takenG rnumP p ws = { p with classes := p.classes ++ [ws.getD 1 ByteArray.empty] } := by
        unfold takenG; rw [if_neg (fun h => l4 h.1), if_neg (by omega), if_neg w0, if_neg w1, if_neg w2, if_neg w3, if_pos w4]
      rw [ht]
      have hxb := hP.r4.notC hhere
      obtain rfl | ⟨c, m, rfl⟩ := hP.r4.shape
      all_goals (
        (try simp +decide (implicitDefEqProofs := false) only [go_sem, ↓stk_g, ↓stk_c, ↓reduceIte, d4, d2, i0, i1, t1, g0, q1, e0, e1, e2, e3, e4, hhere])
        refine stk_appX (rows := strRows p.classes) (new := [[.v (.string (ws.getD 1 ByteArray.empty))]]) hP.r4 (by rfl) (by simp only [strRows_len, List.length_cons, List.length_nil]; omega) fun y H2 hy hrs hf => ?_
        have hg2 := hrs g _ hhere hxb
        have hfin := hP.app4 hy hrs hf
        have hK2 := hK0.rest hP.r4 hrs
        obtain rfl | ⟨c2, m2, rfl⟩ := hy.shape
        all_goals (
          (try simp +decide (implicitDefEqProofs := false) only [go_sem, ↓stk_g, ↓stk_c, ↓reduceIte, hg2, hp_self, hw])
          exact ⟨_, Weak.list _ (Sub.refl _) (by (try simp +decide (implicitDefEqProofs := false) only [go_sem, ↓stk_g, ↓stk_c, ↓reduceIte])), ⟨_, _, _, _, _, hfin⟩, hK2.put r _ _ hr (Ne.symm ngr)⟩))
    have e4 : decide (ws.getD 0 ByteArray.empty = ((⟨#[99, 108, 97, 115, 115]⟩ : ByteArray))) = false := decide_eq_false w4
    by_cases w5 : ws.getD 0 ByteArray.empty = (⟨#[112, 114, 111, 112]⟩ : Str)
    · have e5 : decide (ws.getD 0 ByteArray.empty = ((⟨#[112, 114, 111, 112]⟩ : ByteArray))) = true := decide_eq_true w5
      have ht : takenG rnumP p ws = { p with props := p.props ++ [ws.getD 1 ByteArray.empty] } := by
        unfold takenG; rw [if_neg (fun h => l4 h.1), if_neg (by omega), if_neg w0, if_neg w1, if_neg w2, if_neg w3, if_neg w4, if_pos w5]
      rw [ht]
      have hxb := hP.r5.notC hhere
      obtain rfl | ⟨c, m, rfl⟩ := hP.r5.shape
      all_goals (
        (try simp +decide (implicitDefEqProofs := false) only [go_sem, ↓stk_g, ↓stk_c, ↓reduceIte, d4, d2, i0, i1, t1, g0, q1, e0, e1, e2, e3, e4, e5, hhere])
        refine stk_appX (rows := strRows p.props) (new := [[.v (.string (ws.getD 1 ByteArray.empty))]]) hP.r5 (by rfl) (by simp only [strRows_len, List.length_cons, List.length_nil]; omega) fun y H2 hy hrs hf => ?_
        have hg2 := hrs g _ hhere hxb
        have hfin := hP.app5 hy hrs hf
        have hK2 := hK0.rest hP.r5 hrs
        obtain rfl | ⟨c2, m2, rfl⟩ := hy.shape
        all_goals (
          (try simp +decide (implicitDefEqProofs := false) only [go_sem, ↓stk_g, ↓stk_c, ↓reduceIte, hg2, hp_self, hw])
          exact ⟨_, Weak.list _ (Sub.refl _) (by (try simp +decide (implicitDefEqProofs := false) only [go_sem, ↓stk_g, ↓stk_c, ↓reduceIte])), ⟨_, _, _, _, _, hfin⟩, hK2.put r _ _ hr (Ne.symm ngr)⟩))
    have e5 : decide (ws.getD 0 ByteArray.empty = ((⟨#[112, 114, 111, 112]⟩ : ByteArray))) = false := decide_eq_false w5
    have ht : takenG rnumP p ws = p := by
      unfold takenG; rw [if_neg (fun h => l4 h.1), if_neg (by omega), if_neg w0, if_neg w1, if_neg w2, if_neg w3, if_neg w4, if_neg w5]
    rw [ht]
    (try simp +decide (implicitDefEqProofs := false) only [go_sem, ↓stk_g, ↓stk_c, ↓reduceIte, d4, d2, i0, g0, e0, e1, e2, e3, e4, e5, hw])
    exact ⟨_, Weak.list _ (Sub.refl _) (by (try simp +decide (implicitDefEqProofs := false) only [go_sem, ↓stk_g, ↓stk_c, ↓reduceIte])), ⟨x1, x2, x3, x4, x5, hP⟩, hr⟩
  · have g1 : ¬ (i : Int) < (ls.length : Int) := by omega
    rw [List.take_of_length_le (by omega), ← hread] at hP hsm
    have F := hsm.fits (by omega) (by omega)
    unfold rreadR
    generalize rreadP s = p at hP F ⊢
    have hhere := hP.here
    (try simp +decide (implicitDefEqProofs := false) only [go_sem, ↓stk_g, ↓stk_c, ↓reduceIte, g1, hhere])
    refine stk_pureW ⟨[(111, .agg (polCells p)), (4, .pl (polCells p)), (2, .v (.pointer (some ⟨r, 0, none⟩))), (0, .v (.string s))], AHeap.none.put r (.cells 25 zeroCells)⟩ (Weak.list _ (fun b o hb => ?_) ?_) (rtext_ok p F) fun v hv => ?_
    · simp only [AHeap.put] at hb
      split at hb
      · rename_i e; subst e; rw [hr]; exact hb
      · cases hb
    · have q := FZ.polX (H := H) (H' := AHeap.none.put r (.cells 25 zeroCells)) (p := p) (hP.r1.fz (hP.r1.gone hr)) (hP.r2.fz (hP.r2.gone hr)) (hP.r3.fz (hP.r3.gone hr)) (hP.r4.fz (hP.r4.gone hr)) (hP.r5.fz (hP.r5.gone hr))
      (try simp +decide (implicitDefEqProofs := false) only [go_sem, ↓stk_g, ↓stk_c, ↓reduceIte])
      exact ⟨.agg rfl (polCells_one p) q, .cells hhere (by rw [hp_ne _ _ ngr]; rfl) rfl q⟩
    subst hv
    unfold textR
    cases hrt : rightP p
    · (try simp +decide (implicitDefEqProofs := false) only [go_sem, ↓stk_g, ↓stk_c, ↓reduceIte])
      refine aretC_one (by (try simp +decide (implicitDefEqProofs := false) only [go_sem, ↓stk_g, ↓stk_c, ↓reduceIte, hp_self])) ?_
      (try simp +decide (implicitDefEqProofs := false) only [go_sem, ↓stk_g, ↓stk_c, ↓reduceIte, hp_self])
      exact ⟨.inr rfl, AHeap.none, _, Sub.none _, .tup2 .zero (.refl _), by rw [if_neg (by simp)]; rfl⟩
    by_cases he : textP p = s
    · have h1 : decide (textP p ≠ s) = false := by simp [he]
      (try simp +decide (implicitDefEqProofs := false) only [go_sem, ↓stk_g, ↓stk_c, ↓reduceIte, h1, polCells])
      refine aretC_one (by (try simp +decide (implicitDefEqProofs := false) only [go_sem, ↓stk_g, ↓stk_c, ↓reduceIte, hp_self])) ?_
      (try simp +decide (implicitDefEqProofs := false) only [go_sem, ↓stk_g, ↓stk_c, ↓reduceIte, hp_self])
      exact ⟨.inr rfl, AHeap.none, _, Sub.none _, .refl _, by rw [if_pos he]; rfl⟩
    · have h1 : decide (textP p ≠ s) = true := by simp [he]
      (try simp +decide (implicitDefEqProofs := false) only [go_sem, ↓stk_g, ↓stk_c, ↓reduceIte, h1, polCells])
      refine aretC_one (by (try simp +decide (implicitDefEqProofs := false) only [go_sem, ↓stk_g, ↓stk_c, ↓reduceIte, hp_self])) ?_
      (try simp +decide (implicitDefEqProofs := false) only [go_sem, ↓stk_g, ↓stk_c, ↓reduceIte, hp_self])
      exact ⟨.inr rfl, AHeap.none, _, Sub.none _, .tup2 .zero (.refl _), by rw [if_neg he]; rfl⟩
end Go.Proofs.YtcplmaffccfbdaaGreatDoor.M
