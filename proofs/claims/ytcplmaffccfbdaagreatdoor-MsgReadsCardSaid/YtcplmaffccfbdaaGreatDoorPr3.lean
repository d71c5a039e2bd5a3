/-
  The document's own Right, decimal, lines and Text of layer 8, walked; the law PolicyTexts.
-/
import Derived.Test.YtcplmaffccfbdaaGreatDoorPwLaw
import Derived.Test.YtcplmaffccfbdaaGreatDoorPr2
namespace Go.Proofs.YtcplmaffccfbdaaGreatDoor.M
open Go.RowKit
attribute [local go_sem] stk_nil stk_skip stk_ops stk_seq stk_block stk_scope stk_exit stk_ret stk_code_exit stk_code_ret stk_ops_exit stk_ops_ret stk_endb stk_endb_exit stk_endb_ret stk_endl stk_endl_exit stk_endl_ret stk_ops_nil stk_q stk_niq niqA flip srcOf stk_bsl side val bside bval uside uval cside cval bndS bndV intA isInt lside lval fside fval faside faval iside ival sxside sxval sizeA slside slval llside llval lenside lenval lenA tupA mmside mmval nkside boolA isBool ev_t ev_c tget put_s put_n lkside lkval menval stk_mk Option.isSome_some isMapA mapA keyA FZ_rfl FZ_any retOf true_and and_true if_true if_false decide_true decide_false Bool.not_true Bool.not_false Nat.zero_add List.map_cons List.map_nil Int.toNat_natCast strRows_len intRows_len List.getD_cons_zero List.getD_cons_succ List.length_cons List.length_nil List.forall_mem_cons List.not_mem_nil false_implies implies_true Int.ofNat_zero Int.natCast_add Int.natCast_one Int.ofNat_one Int.natCast_zero isB isU Bool.false_eq_true beq_self_eq_true Bool.false_beq Bool.true_beq Int.natCast_nonneg undef strRows_take strRows_drop Int.toNat_zero List.drop_zero Bool.and_true oneOr List.all_cons List.all_nil AVal.one Value.oneCell' Bool.true_and List.take_length stk_st' stside stH hp_self hp_hp isnside isnval lay List.take_succ_cons List.take_zero List.drop_succ_cons List.nil_append List.cons_append Option.getD_some List.append_nil and_self
set_option linter.unusedVariables false
set_option linter.unusedSimpArgs false
theorem rp_false {p : Pol} (h : rightP p = true → False) : rightP p = false := by
  cases e : rightP p
  · rfl
  · exact (h e).elim
theorem scheme_words {p : Pol} (h : rightP p = true) : listP p.schemes wordP = true := by
  obtain ⟨h1, h2, h3⟩ := listP_iff.1 (rightP_split.1 h).2.2.2.1
  exact listP_iff.2 ⟨h1, fun s hs => by have := h2 s hs; unfold schemeP at this; rw [Bool.and_eq_true] at this; exact this.1, h3⟩
theorem elem_words {p : Pol} (h : rightP p = true) : listP p.elems wordP = true := by
  obtain ⟨h1, h2, h3⟩ := listP_iff.1 (rightP_elems h)
  exact listP_iff.2 ⟨h1, fun s hs => by have := h2 s hs; unfold elP at this; rw [Bool.and_eq_true] at this; exact this.1, h3⟩
theorem attr_rises {p : Pol} (h : rightP p = true) : risesP p.attrs = true := by
  obtain ⟨h1, h2, h3⟩ := listP_iff.1 (rightP_attrs h)
  unfold risesP
  rw [Bool.and_eq_true]
  exact ⟨rises_pair.2 h1, decide_eq_true h3⟩
def jsS : Str := (⟨#[106, 97, 118, 97, 115, 99, 114, 105, 112, 116]⟩ : ByteArray)
def dataS : Str := (⟨#[100, 97, 116, 97]⟩ : ByteArray)
def vbS : Str := (⟨#[118, 98, 115, 99, 114, 105, 112, 116]⟩ : ByteArray)
theorem scheme_not {p : Pol} (h : rightP p = true) : jsS ∉ p.schemes ∧ dataS ∉ p.schemes ∧ vbS ∉ p.schemes := by
  have h2 := (listP_iff.1 (rightP_split.1 h).2.2.2.1).2.1
  refine ⟨fun hs => ?_, fun hs => ?_, fun hs => ?_⟩
  · have := h2 _ hs; revert this; decide +kernel
  · have := h2 _ hs; revert this; decide +kernel
  · have := h2 _ hs; revert this; decide +kernel
theorem right_of {p : Pol} (hn : 1 ≤ p.epoch ∧ p.epoch ≤ 1000000 ∧ 1 ≤ p.depth ∧ p.depth ≤ 64 ∧ 1 ≤ p.nodes ∧ p.nodes ≤ 2000 ∧ 1 ≤ p.bytes ∧ p.bytes ≤ 16384) (h1 : listP p.elems wordP = true) (h2 : risesP p.attrs = true) (h3 : listP p.schemes wordP = true) (h4 : listP p.classes wordP = true) (h5 : listP p.props wordP = true)
    (h6 : ∀ s ∈ p.elems, neverP s = false) (h7 : ∀ s ∈ p.attrs, attrsP p.elems s = true) (h8 : liP p.elems = true) (h9 : jsS ∉ p.schemes ∧ dataS ∉ p.schemes ∧ vbS ∉ p.schemes) : rightP p = true := by
  obtain ⟨a1, a2, a3⟩ := listP_iff.1 h1
  obtain ⟨b1, b2, b3⟩ := listP_iff.1 h3
  unfold risesP at h2
  rw [Bool.and_eq_true] at h2
  refine rightP_split.2 ⟨⟨by omega, by omega, ?_⟩, listP_iff.2 ⟨a1, fun s hs => ?_, a3⟩, listP_iff.2 ⟨rises_pair.1 h2.1, h7, of_decide_eq_true h2.2⟩, listP_iff.2 ⟨b1, fun s hs => ?_, b3⟩, h4, h5, h8⟩
  · unfold capsP fitI
    rw [decide_eq_true (by omega), decide_eq_true (by omega), decide_eq_true (by omega)]; rfl
  · unfold elP
    rw [a2 s hs, h6 s hs]; rfl
  · unfold schemeP
    have e1 : s ≠ jsS := fun e => h9.1 (e ▸ hs)
    have e2 : s ≠ dataS := fun e => h9.2.1 (e ▸ hs)
    have e3 : s ≠ vbS := fun e => h9.2.2 (e ▸ hs)
    simp only [Bool.and_eq_true, decide_eq_true_eq]
    exact ⟨b2 s hs, e1, e2, e3⟩
def c_rRight : AFn := ⟨1, 131, [2],
  .seq (.ops [⟨(some 1), none, .e (.box 25 (.tmp 0))⟩,
      ⟨(some 2), none, .q (.mv (.const (.bool false)))⟩])
  (.seq (.seq (.ops [⟨(some 5), none, .q (.fad 0 1 (.tmp 1))⟩,
      ⟨(some 6), none, .q (.ld false 1 (.tmp 5))⟩,
      ⟨(some 7), none, .q (.bin .lss .num (.tmp 6) (.const (.int .i64 1)))⟩,
      ⟨(some 8), none, .q (.mv (.tmp 7))⟩,
      ⟨(some 9), (some (8, false)), .q (.fad 0 1 (.tmp 1))⟩,
      ⟨(some 10), (some (8, false)), .q (.ld false 1 (.tmp 9))⟩,
      ⟨(some 11), (some (8, false)), .q (.bin .gtr .num (.tmp 10) (.const (.int .i64 1000000)))⟩,
      ⟨(some 12), none, .q (.pick (.tmp 8) (.const (.bool true)) (.tmp 11))⟩,
      ⟨(some 13), none, .q (.mv (.tmp 12))⟩,
      ⟨(some 14), (some (13, false)), .q (.fad 6 1 (.tmp 1))⟩,
      ⟨(some 15), (some (13, false)), .q (.ld false 1 (.tmp 14))⟩,
      ⟨(some 16), (some (13, false)), .q (.bin .lss .num (.tmp 15) (.const (.int .i64 1)))⟩,
      ⟨(some 17), none, .q (.pick (.tmp 13) (.const (.bool true)) (.tmp 16))⟩,
      ⟨(some 18), none, .q (.mv (.tmp 17))⟩,
      ⟨(some 19), (some (18, false)), .q (.fad 6 1 (.tmp 1))⟩,
      ⟨(some 20), (some (18, false)), .q (.ld false 1 (.tmp 19))⟩,
      ⟨(some 21), (some (18, false)), .q (.bin .gtr .num (.tmp 20) (.const (.int .i64 64)))⟩,
      ⟨(some 22), none, .q (.pick (.tmp 18) (.const (.bool true)) (.tmp 21))⟩,
      ⟨(some 23), none, .q (.mv (.tmp 22))⟩,
      ⟨(some 24), (some (23, false)), .q (.fad 7 1 (.tmp 1))⟩,
      ⟨(some 25), (some (23, false)), .q (.ld false 1 (.tmp 24))⟩,
      ⟨(some 26), (some (23, false)), .q (.bin .lss .num (.tmp 25) (.const (.int .i64 1)))⟩,
      ⟨(some 27), none, .q (.pick (.tmp 23) (.const (.bool true)) (.tmp 26))⟩,
      ⟨(some 28), none, .q (.mv (.tmp 27))⟩,
      ⟨(some 29), (some (28, false)), .q (.fad 7 1 (.tmp 1))⟩,
      ⟨(some 30), (some (28, false)), .q (.ld false 1 (.tmp 29))⟩,
      ⟨(some 31), (some (28, false)), .q (.bin .gtr .num (.tmp 30) (.const (.int .i64 2000)))⟩,
      ⟨(some 32), none, .q (.pick (.tmp 28) (.const (.bool true)) (.tmp 31))⟩,
      ⟨(some 33), none, .q (.mv (.tmp 32))⟩,
      ⟨(some 34), (some (33, false)), .q (.fad 8 1 (.tmp 1))⟩,
      ⟨(some 35), (some (33, false)), .q (.ld false 1 (.tmp 34))⟩,
      ⟨(some 36), (some (33, false)), .q (.bin .lss .num (.tmp 35) (.const (.int .i64 1)))⟩,
      ⟨(some 37), none, .q (.pick (.tmp 33) (.const (.bool true)) (.tmp 36))⟩,
      ⟨(some 38), none, .q (.mv (.tmp 37))⟩,
      ⟨(some 39), (some (38, false)), .q (.fad 8 1 (.tmp 1))⟩,
      ⟨(some 40), (some (38, false)), .q (.ld false 1 (.tmp 39))⟩,
      ⟨(some 41), (some (38, false)), .q (.bin .gtr .num (.tmp 40) (.const (.int .i64 16384)))⟩,
      ⟨(some 42), none, .q (.pick (.tmp 38) (.const (.bool true)) (.tmp 41))⟩])
  (.cond (.tmp 42)
    (.seq (.ops [⟨(some 2), none, .q (.mv (.const (.bool false)))⟩])
    (.ret))
    (.skip)))
  (.seq (.seq (.ops [⟨(some 43), none, .q (.fad 1 1 (.tmp 1))⟩,
      ⟨(some 44), none, .q (.ld false 1 (.tmp 43))⟩,
      ⟨(some 45), none, .e (.call 50 [(.tmp 44)])⟩,
      ⟨(some 46), none, .q (.un .not (.tmp 45))⟩,
      ⟨(some 47), none, .q (.mv (.tmp 46))⟩,
      ⟨(some 48), (some (47, false)), .q (.fad 2 1 (.tmp 1))⟩,
      ⟨(some 49), (some (47, false)), .q (.ld false 1 (.tmp 48))⟩,
      ⟨(some 50), (some (47, false)), .e (.call 51 [(.tmp 49)])⟩,
      ⟨(some 51), (some (47, false)), .q (.un .not (.tmp 50))⟩,
      ⟨(some 52), none, .q (.pick (.tmp 47) (.const (.bool true)) (.tmp 51))⟩,
      ⟨(some 53), none, .q (.mv (.tmp 52))⟩,
      ⟨(some 54), (some (53, false)), .q (.fad 3 1 (.tmp 1))⟩,
      ⟨(some 55), (some (53, false)), .q (.ld false 1 (.tmp 54))⟩,
      ⟨(some 56), (some (53, false)), .e (.call 50 [(.tmp 55)])⟩,
      ⟨(some 57), (some (53, false)), .q (.un .not (.tmp 56))⟩,
      ⟨(some 58), none, .q (.pick (.tmp 53) (.const (.bool true)) (.tmp 57))⟩,
      ⟨(some 59), none, .q (.mv (.tmp 58))⟩,
      ⟨(some 60), (some (59, false)), .q (.fad 4 1 (.tmp 1))⟩,
      ⟨(some 61), (some (59, false)), .q (.ld false 1 (.tmp 60))⟩,
      ⟨(some 62), (some (59, false)), .e (.call 50 [(.tmp 61)])⟩,
      ⟨(some 63), (some (59, false)), .q (.un .not (.tmp 62))⟩,
      ⟨(some 64), none, .q (.pick (.tmp 59) (.const (.bool true)) (.tmp 63))⟩,
      ⟨(some 65), none, .q (.mv (.tmp 64))⟩,
      ⟨(some 66), (some (65, false)), .q (.fad 5 1 (.tmp 1))⟩,
      ⟨(some 67), (some (65, false)), .q (.ld false 1 (.tmp 66))⟩,
      ⟨(some 68), (some (65, false)), .e (.call 50 [(.tmp 67)])⟩,
      ⟨(some 69), (some (65, false)), .q (.un .not (.tmp 68))⟩,
      ⟨(some 70), none, .q (.pick (.tmp 65) (.const (.bool true)) (.tmp 69))⟩])
  (.cond (.tmp 70)
    (.seq (.ops [⟨(some 2), none, .q (.mv (.const (.bool false)))⟩])
    (.ret))
    (.skip)))
  (.seq (.seq (.ops [⟨(some 3), none, .q (.mv (.const (.int .i64 0)))⟩])
  (.block 0 (.loop (.seq (.seq (.ops [⟨(some 71), none, .q (.mv (.tmp 3))⟩,
          ⟨(some 72), none, .q (.fad 1 1 (.tmp 1))⟩,
          ⟨(some 73), none, .q (.ld false 1 (.tmp 72))⟩,
          ⟨(some 74), none, .q (.len false (.tmp 73))⟩,
          ⟨(some 75), none, .q (.bin .lss .num (.tmp 71) (.tmp 74))⟩])
      (.cond (.tmp 75)
        (.skip)
        (.exit 0)))
      (.seq (.block 1 (.seq (.ops [⟨(some 78), none, .q (.fad 1 1 (.tmp 1))⟩,
            ⟨(some 79), none, .q (.ld false 1 (.tmp 78))⟩,
            ⟨(some 80), none, .q (.mv (.tmp 3))⟩,
            ⟨(some 81), none, .q (.ixa 1 (.tmp 79) (.tmp 80))⟩,
            ⟨(some 82), none, .q (.ld false 1 (.tmp 81))⟩,
            ⟨(some 83), none, .e (.call 52 [(.tmp 82)])⟩])
        (.cond (.tmp 83)
          (.seq (.ops [⟨(some 2), none, .q (.mv (.const (.bool false)))⟩])
          (.ret))
          (.skip))))
      (.ops [⟨(some 76), none, .q (.mv (.tmp 3))⟩,
          ⟨(some 77), none, .q (.bin .add .num (.tmp 76) (.const (.int .i64 1)))⟩,
          ⟨(some 3), none, .q (.mv (.tmp 77))⟩]))))))
  (.seq (.seq (.ops [⟨(some 4), none, .q (.mv (.const (.int .i64 0)))⟩])
  (.block 2 (.loop (.seq (.seq (.ops [⟨(some 84), none, .q (.mv (.tmp 4))⟩,
          ⟨(some 85), none, .q (.fad 2 1 (.tmp 1))⟩,
          ⟨(some 86), none, .q (.ld false 1 (.tmp 85))⟩,
          ⟨(some 87), none, .q (.len false (.tmp 86))⟩,
          ⟨(some 88), none, .q (.bin .lss .num (.tmp 84) (.tmp 87))⟩])
      (.cond (.tmp 88)
        (.skip)
        (.exit 2)))
      (.seq (.block 3 (.seq (.ops [⟨(some 91), none, .q (.fad 2 1 (.tmp 1))⟩,
            ⟨(some 92), none, .q (.ld false 1 (.tmp 91))⟩,
            ⟨(some 93), none, .q (.mv (.tmp 4))⟩,
            ⟨(some 94), none, .q (.ixa 1 (.tmp 92) (.tmp 93))⟩,
            ⟨(some 95), none, .q (.ld false 1 (.tmp 94))⟩,
            ⟨(some 96), none, .q (.fad 1 1 (.tmp 1))⟩,
            ⟨(some 97), none, .q (.ld false 1 (.tmp 96))⟩,
            ⟨(some 98), none, .e (.call 53 [(.tmp 95), (.tmp 97)])⟩,
            ⟨(some 99), none, .q (.un .not (.tmp 98))⟩])
        (.cond (.tmp 99)
          (.seq (.ops [⟨(some 2), none, .q (.mv (.const (.bool false)))⟩])
          (.ret))
          (.skip))))
      (.ops [⟨(some 89), none, .q (.mv (.tmp 4))⟩,
          ⟨(some 90), none, .q (.bin .add .num (.tmp 89) (.const (.int .i64 1)))⟩,
          ⟨(some 4), none, .q (.mv (.tmp 90))⟩]))))))
  (.seq (.seq (.ops [⟨(some 100), none, .q (.fad 1 1 (.tmp 1))⟩,
      ⟨(some 101), none, .q (.ld false 1 (.tmp 100))⟩,
      ⟨(some 102), none, .e (.call 54 [(.tmp 101), (.const (.string ⟨#[108, 105]⟩))])⟩,
      ⟨(some 103), none, .q (.mv (.tmp 102))⟩,
      ⟨(some 104), (some (103, true)), .q (.fad 1 1 (.tmp 1))⟩,
      ⟨(some 105), (some (103, true)), .q (.ld false 1 (.tmp 104))⟩,
      ⟨(some 106), (some (103, true)), .e (.call 54 [(.tmp 105), (.const (.string ⟨#[117, 108]⟩))])⟩,
      ⟨(some 107), (some (103, true)), .q (.un .not (.tmp 106))⟩,
      ⟨(some 108), (some (103, true)), .q (.mv (.tmp 107))⟩,
      ⟨(some 109), (some (108, false)), .q (.fad 1 1 (.tmp 1))⟩,
      ⟨(some 110), (some (108, false)), .q (.ld false 1 (.tmp 109))⟩,
      ⟨(some 111), (some (108, false)), .e (.call 54 [(.tmp 110), (.const (.string ⟨#[111, 108]⟩))])⟩,
      ⟨(some 112), (some (108, false)), .q (.un .not (.tmp 111))⟩,
      ⟨(some 113), (some (103, true)), .q (.pick (.tmp 108) (.const (.bool true)) (.tmp 112))⟩,
      ⟨(some 114), none, .q (.pick (.tmp 103) (.tmp 113) (.const (.bool false)))⟩])
  (.cond (.tmp 114)
    (.seq (.ops [⟨(some 2), none, .q (.mv (.const (.bool false)))⟩])
    (.ret))
    (.skip)))
  (.seq (.ops [⟨(some 115), none, .q (.fad 3 1 (.tmp 1))⟩,
      ⟨(some 116), none, .q (.ld false 1 (.tmp 115))⟩,
      ⟨(some 117), none, .e (.call 54 [(.tmp 116), (.const (.string ⟨#[106, 97, 118, 97, 115, 99, 114, 105, 112, 116]⟩))])⟩,
      ⟨(some 118), none, .q (.un .not (.tmp 117))⟩,
      ⟨(some 119), none, .q (.mv (.tmp 118))⟩,
      ⟨(some 120), (some (119, true)), .q (.fad 3 1 (.tmp 1))⟩,
      ⟨(some 121), (some (119, true)), .q (.ld false 1 (.tmp 120))⟩,
      ⟨(some 122), (some (119, true)), .e (.call 54 [(.tmp 121), (.const (.string ⟨#[100, 97, 116, 97]⟩))])⟩,
      ⟨(some 123), (some (119, true)), .q (.un .not (.tmp 122))⟩,
      ⟨(some 124), none, .q (.pick (.tmp 119) (.tmp 123) (.const (.bool false)))⟩,
      ⟨(some 125), none, .q (.mv (.tmp 124))⟩,
      ⟨(some 126), (some (125, true)), .q (.fad 3 1 (.tmp 1))⟩,
      ⟨(some 127), (some (125, true)), .q (.ld false 1 (.tmp 126))⟩,
      ⟨(some 128), (some (125, true)), .e (.call 54 [(.tmp 127), (.const (.string ⟨#[118, 98, 115, 99, 114, 105, 112, 116]⟩))])⟩,
      ⟨(some 129), (some (125, true)), .q (.un .not (.tmp 128))⟩,
      ⟨(some 130), none, .q (.pick (.tmp 125) (.tmp 129) (.const (.bool false)))⟩,
      ⟨(some 2), none, .q (.mv (.tmp 130))⟩])
  (.ret))))))), []⟩
theorem k_rRight : compF Tryz.prog 24 = some c_rRight := by kernel_rfl
set_option maxHeartbeats 16000000 in
theorem rright_ok {W : World} (p : Pol) (F : Fits p) : ACalls Tryz.prog W 24 [.agg (polCells p)] AHeap.none fun v _ => v = .v (.bool (rightP p)) := by
  have F1 := F.elems
  have F2 := F.attrs
  have F3 := F.schemes
  have F4 := F.classes
  have F5 := F.props
  have Z1 := fun s (hs : s ∈ p.elems) => F.all p.elems (by simp) s hs
  have Z2 := fun s (hs : s ∈ p.attrs) => F.all p.attrs (by simp) s hs
  have Z3 := fun s (hs : s ∈ p.schemes) => F.all p.schemes (by simp) s hs
  have Z4 := fun s (hs : s ∈ p.classes) => F.all p.classes (by simp) s hs
  have Z5 := fun s (hs : s ∈ p.props) => F.all p.props (by simp) s hs
  refine fn_run follows k_rRight rfl ?_
  simp only [c_rRight, aretC_nil, List.zipIdx_cons, List.zipIdx_nil, List.map_cons, List.map_nil, Nat.zero_add]
  (try simp +decide (implicitDefEqProofs := false) only [go_sem, ↓stk_g, ↓stk_c, ↓reduceIte])
  rw [stk_box]
  refine ⟨by rfl, fun b1 h1 => ?_⟩
  by_cases t0 : p.epoch < 1
  · rw [rp_false fun h => by have := rightP_nums h; omega]
    (try simp +decide (implicitDefEqProofs := false) only [go_sem, ↓stk_g, ↓stk_c, ↓reduceIte, hp_self, t0, polCells])
    refine aret_pure (.inr rfl) ?_; simp +decide only [retOf, tget, if_true, if_false, ↓reduceIte, List.map_cons, List.map_nil]
  by_cases t1 : 1000000 < p.epoch
  · rw [rp_false fun h => by have := rightP_nums h; omega]
    (try simp +decide (implicitDefEqProofs := false) only [go_sem, ↓stk_g, ↓stk_c, ↓reduceIte, hp_self, t0, t1, polCells])
    refine aret_pure (.inr rfl) ?_; simp +decide only [retOf, tget, if_true, if_false, ↓reduceIte, List.map_cons, List.map_nil]
  by_cases t2 : p.depth < 1
  · rw [rp_false fun h => by have := rightP_nums h; omega]
    (try simp +decide (implicitDefEqProofs := false) only [go_sem, ↓stk_g, ↓stk_c, ↓reduceIte, hp_self, t0, t1, t2, polCells])
    refine aret_pure (.inr rfl) ?_; simp +decide only [retOf, tget, if_true, if_false, ↓reduceIte, List.map_cons, List.map_nil]
  by_cases t3 : 64 < p.depth
  · rw [rp_false fun h => by have := rightP_nums h; omega]
    (try simp +decide (implicitDefEqProofs := false) only [go_sem, ↓stk_g, ↓stk_c, ↓reduceIte, hp_self, t0, t1, t2, t3, polCells])
    refine aret_pure (.inr rfl) ?_; simp +decide only [retOf, tget, if_true, if_false, ↓reduceIte, List.map_cons, List.map_nil]
  by_cases t4 : p.nodes < 1
  · rw [rp_false fun h => by have := rightP_nums h; omega]
    (try simp +decide (implicitDefEqProofs := false) only [go_sem, ↓stk_g, ↓stk_c, ↓reduceIte, hp_self, t0, t1, t2, t3, t4, polCells])
    refine aret_pure (.inr rfl) ?_; simp +decide only [retOf, tget, if_true, if_false, ↓reduceIte, List.map_cons, List.map_nil]
  by_cases t5 : 2000 < p.nodes
  · rw [rp_false fun h => by have := rightP_nums h; omega]
    (try simp +decide (implicitDefEqProofs := false) only [go_sem, ↓stk_g, ↓stk_c, ↓reduceIte, hp_self, t0, t1, t2, t3, t4, t5, polCells])
    refine aret_pure (.inr rfl) ?_; simp +decide only [retOf, tget, if_true, if_false, ↓reduceIte, List.map_cons, List.map_nil]
  by_cases t6 : p.bytes < 1
  · rw [rp_false fun h => by have := rightP_nums h; omega]
    (try simp +decide (implicitDefEqProofs := false) only [go_sem, ↓stk_g, ↓stk_c, ↓reduceIte, hp_self, t0, t1, t2, t3, t4, t5, t6, polCells])
    refine aret_pure (.inr rfl) ?_; simp +decide only [retOf, tget, if_true, if_false, ↓reduceIte, List.map_cons, List.map_nil]
  by_cases t7 : 16384 < p.bytes
  · rw [rp_false fun h => by have := rightP_nums h; omega]
    (try simp +decide (implicitDefEqProofs := false) only [go_sem, ↓stk_g, ↓stk_c, ↓reduceIte, hp_self, t0, t1, t2, t3, t4, t5, t6, t7, polCells])
    refine aret_pure (.inr rfl) ?_; simp +decide only [retOf, tget, if_true, if_false, ↓reduceIte, List.map_cons, List.map_nil]
  (try simp +decide (implicitDefEqProofs := false) only [go_sem, ↓stk_g, ↓stk_c, ↓reduceIte, hp_self, t0, t1, t2, t3, t4, t5, t6, t7, polCells])
  refine stk_pure (words_ok p.elems (by omega) (fun s hs => by have := Z1 s hs; omega)) fun v hv => ?_
  subst hv
  cases w1 : listP p.elems wordP
  · rw [rp_false fun h => by have := elem_words h; rw [w1] at this; cases this]
    (try simp +decide (implicitDefEqProofs := false) only [go_sem, ↓stk_g, ↓stk_c, ↓reduceIte])
    refine aret_pure (.inr rfl) ?_; simp +decide only [retOf, tget, if_true, if_false, ↓reduceIte, List.map_cons, List.map_nil]
  (try simp +decide (implicitDefEqProofs := false) only [go_sem, ↓stk_g, ↓stk_c, ↓reduceIte, hp_self, polCells])
  refine stk_pure (rises_ok p.attrs (by omega)) fun v hv => ?_
  subst hv
  cases w2 : risesP p.attrs
  · rw [rp_false fun h => by have := attr_rises h; rw [w2] at this; cases this]
    (try simp +decide (implicitDefEqProofs := false) only [go_sem, ↓stk_g, ↓stk_c, ↓reduceIte])
    refine aret_pure (.inr rfl) ?_; simp +decide only [retOf, tget, if_true, if_false, ↓reduceIte, List.map_cons, List.map_nil]
  (try simp +decide (implicitDefEqProofs := false) only [go_sem, ↓stk_g, ↓stk_c, ↓reduceIte, hp_self, polCells])
  refine stk_pure (words_ok p.schemes (by omega) (fun s hs => by have := Z3 s hs; omega)) fun v hv => ?_
  subst hv
  cases w3 : listP p.schemes wordP
  · rw [rp_false fun h => by have := scheme_words h; rw [w3] at this; cases this]
    (try simp +decide (implicitDefEqProofs := false) only [go_sem, ↓stk_g, ↓stk_c, ↓reduceIte])
    refine aret_pure (.inr rfl) ?_; simp +decide only [retOf, tget, if_true, if_false, ↓reduceIte, List.map_cons, List.map_nil]
  (try simp +decide (implicitDefEqProofs := false) only [go_sem, ↓stk_g, ↓stk_c, ↓reduceIte, hp_self, polCells])
  refine stk_pure (words_ok p.classes (by omega) (fun s hs => by have := Z4 s hs; omega)) fun v hv => ?_
  subst hv
  cases w4 : listP p.classes wordP
  · rw [rp_false fun h => by have := (rightP_split.1 h).2.2.2.2.1; rw [w4] at this; cases this]
    (try simp +decide (implicitDefEqProofs := false) only [go_sem, ↓stk_g, ↓stk_c, ↓reduceIte])
    refine aret_pure (.inr rfl) ?_; simp +decide only [retOf, tget, if_true, if_false, ↓reduceIte, List.map_cons, List.map_nil]
  (try simp +decide (implicitDefEqProofs := false) only [go_sem, ↓stk_g, ↓stk_c, ↓reduceIte, hp_self, polCells])
  refine stk_pure (words_ok p.props (by omega) (fun s hs => by have := Z5 s hs; omega)) fun v hv => ?_
  subst hv
  cases w5 : listP p.props wordP
  · rw [rp_false fun h => by have := (rightP_split.1 h).2.2.2.2.2.1; rw [w5] at this; cases this]
    (try simp +decide (implicitDefEqProofs := false) only [go_sem, ↓stk_g, ↓stk_c, ↓reduceIte])
    refine aret_pure (.inr rfl) ?_; simp +decide only [retOf, tget, if_true, if_false, ↓reduceIte, List.map_cons, List.map_nil]
  (try simp +decide (implicitDefEqProofs := false) only [go_sem, ↓stk_g, ↓stk_c, ↓reduceIte, hp_self, polCells])
  refine stk_up (α := Unit) p.elems.length (fun i _ => ⟨[(3, .v (.int .i64 i)), (1, .pl (polCells p))], AHeap.none⟩) (fun i _ => ∀ j, j < i → neverP (p.elems.getD j ByteArray.empty) = false) () (Weak.list _ (Sub.none _) ?_) (fun j h => by omega) ?_
  · (try simp +decide (implicitDefEqProofs := false) only [go_sem, ↓stk_g, ↓stk_c, ↓reduceIte])
    exact FZ.cellsR (hp_self _ _ _) rfl
  clear h1
  rintro i ⟨⟩ hi hJ
  by_cases hlt : i < p.elems.length
  · have g1 : (i : Int) < (p.elems.length : Int) := by omega
    have hw := wrap_in (n := (i : Int) + 1) (by omega) (by omega)
    have hg := strRows_get hlt
    have hmem : p.elems.getD i ByteArray.empty ∈ p.elems := by
      have e : p.elems.getD i ByteArray.empty = p.elems[i] := by simp [hlt]
      rw [e]; exact List.getElem_mem _
    (try simp +decide (implicitDefEqProofs := false) only [go_sem, ↓stk_g, ↓stk_c, ↓reduceIte, g1, hlt, hg, polCells])
    refine stk_pure (rnever_ok _) fun v hv => ?_
    subst hv
    cases hh : neverP (p.elems.getD i ByteArray.empty)
    · (try simp +decide (implicitDefEqProofs := false) only [go_sem, ↓stk_g, ↓stk_c, ↓reduceIte, hw])
      refine ⟨(), Weak.list _ (Sub.refl _) (by (try simp +decide (implicitDefEqProofs := false) only [go_sem, ↓stk_g, ↓stk_c, ↓reduceIte, polCells])), fun j hj => ?_⟩
      by_cases e : j = i
      · rw [e]; exact hh
      · exact hJ j (by omega)
    · rw [rp_false fun h => by have := listP_all (rightP_elems h) hmem; unfold elP at this; rw [hh] at this; simp at this]
      (try simp +decide (implicitDefEqProofs := false) only [go_sem, ↓stk_g, ↓stk_c, ↓reduceIte])
      refine aret_pure (.inr rfl) ?_; simp +decide only [retOf, tget, if_true, if_false, ↓reduceIte, List.map_cons, List.map_nil]
  have g1 : ¬ (i : Int) < (p.elems.length : Int) := by omega
  obtain rfl : i = p.elems.length := by omega
  have hnev : ∀ s ∈ p.elems, neverP s = false := fun s hs => by
    obtain ⟨j, hj, rfl⟩ := List.getElem_of_mem hs
    have := hJ j hj
    simpa [hj] using this
  clear hJ hi
  (try simp +decide (implicitDefEqProofs := false) only [go_sem, ↓stk_g, ↓stk_c, ↓reduceIte, g1, polCells])
  refine stk_up (α := Unit) p.attrs.length (fun i _ => ⟨[(4, .v (.int .i64 i)), (1, .pl (polCells p))], AHeap.none⟩) (fun i _ => ∀ j, j < i → attrsP p.elems (p.attrs.getD j ByteArray.empty) = true) () (Weak.list _ (Sub.refl _) (by (try simp +decide (implicitDefEqProofs := false) only [go_sem, ↓stk_g, ↓stk_c, ↓reduceIte, polCells]))) (fun j h => by omega) ?_
  rintro i ⟨⟩ hi hJ
  by_cases hlt : i < p.attrs.length
  · have g1 : (i : Int) < (p.attrs.length : Int) := by omega
    have hw := wrap_in (n := (i : Int) + 1) (by omega) (by omega)
    have hg := strRows_get hlt
    have hmem : p.attrs.getD i ByteArray.empty ∈ p.attrs := by
      have e : p.attrs.getD i ByteArray.empty = p.attrs[i] := by simp [hlt]
      rw [e]; exact List.getElem_mem _
    have hsz := Z2 _ hmem
    (try simp +decide (implicitDefEqProofs := false) only [go_sem, ↓stk_g, ↓stk_c, ↓reduceIte, g1, hlt, hg, polCells])
    refine stk_pure (rattr_ok _ p.elems (by omega) (by omega)) fun v hv => ?_
    subst hv
    cases hh : attrsP p.elems (p.attrs.getD i ByteArray.empty)
    · rw [rp_false fun h => by have := listP_all (rightP_attrs h) hmem; rw [hh] at this; cases this]
      (try simp +decide (implicitDefEqProofs := false) only [go_sem, ↓stk_g, ↓stk_c, ↓reduceIte])
      refine aret_pure (.inr rfl) ?_; simp +decide only [retOf, tget, if_true, if_false, ↓reduceIte, List.map_cons, List.map_nil]
    · (try simp +decide (implicitDefEqProofs := false) only [go_sem, ↓stk_g, ↓stk_c, ↓reduceIte, hw])
      refine ⟨(), Weak.list _ (Sub.refl _) (by (try simp +decide (implicitDefEqProofs := false) only [go_sem, ↓stk_g, ↓stk_c, ↓reduceIte, polCells])), fun j hj => ?_⟩
      by_cases e : j = i
      · rw [e]; exact hh
      · exact hJ j (by omega)
  have g1 : ¬ (i : Int) < (p.attrs.length : Int) := by omega
  obtain rfl : i = p.attrs.length := by omega
  have hatt : ∀ s ∈ p.attrs, attrsP p.elems s = true := fun s hs => by
    obtain ⟨j, hj, rfl⟩ := List.getElem_of_mem hs
    have := hJ j hj
    simpa [hj] using this
  clear hJ hi
  have hfin : liP p.elems = true → (jsS ∉ p.schemes ∧ dataS ∉ p.schemes ∧ vbS ∉ p.schemes) → rightP p = true := fun hli h9 => right_of (by omega) w1 w2 w3 w4 w5 hnev hatt hli h9
  have hnol : liP p.elems = false → rightP p = false := fun h => rp_false fun h2 => by have := (rightP_split.1 h2).2.2.2.2.2.2; rw [h] at this; cases this
  have hli0 : liP p.elems = (!decide ((⟨#[108, 105]⟩ : ByteArray) ∈ p.elems) || (decide ((⟨#[117, 108]⟩ : ByteArray) ∈ p.elems) && decide ((⟨#[111, 108]⟩ : ByteArray) ∈ p.elems))) := rfl
  (try simp +decide (implicitDefEqProofs := false) only [go_sem, ↓stk_g, ↓stk_c, ↓reduceIte, g1, polCells])
  refine stk_pure (has_ok p.elems (⟨#[108, 105]⟩ : ByteArray) (by omega)) fun v hv => ?_
  subst hv
  cases l1 : decide ((⟨#[108, 105]⟩ : ByteArray) ∈ p.elems)
  · (try simp +decide (implicitDefEqProofs := false) only [go_sem, ↓stk_g, ↓stk_c, ↓reduceIte, polCells])
    refine stk_pure (has_ok p.schemes jsS (by omega)) fun v hv => ?_
    subst hv
    by_cases s1 : jsS ∈ p.schemes
    · rw [decide_eq_true s1, rp_false fun h => (scheme_not h).1 s1]
      (try simp +decide (implicitDefEqProofs := false) only [go_sem, ↓stk_g, ↓stk_c, ↓reduceIte])
      refine aret_pure (.inr rfl) ?_; simp +decide only [retOf, tget, if_true, if_false, ↓reduceIte, List.map_cons, List.map_nil]
    rw [decide_eq_false s1]
    (try simp +decide (implicitDefEqProofs := false) only [go_sem, ↓stk_g, ↓stk_c, ↓reduceIte, polCells])
    refine stk_pure (has_ok p.schemes dataS (by omega)) fun v hv => ?_
    subst hv
    by_cases s2 : dataS ∈ p.schemes
    · rw [decide_eq_true s2, rp_false fun h => (scheme_not h).2.1 s2]
      (try simp +decide (implicitDefEqProofs := false) only [go_sem, ↓stk_g, ↓stk_c, ↓reduceIte])
      refine aret_pure (.inr rfl) ?_; simp +decide only [retOf, tget, if_true, if_false, ↓reduceIte, List.map_cons, List.map_nil]
    rw [decide_eq_false s2]
    (try simp +decide (implicitDefEqProofs := false) only [go_sem, ↓stk_g, ↓stk_c, ↓reduceIte, polCells])
    refine stk_pure (has_ok p.schemes vbS (by omega)) fun v hv => ?_
    subst hv
    by_cases s3 : vbS ∈ p.schemes
    · rw [decide_eq_true s3, rp_false fun h => (scheme_not h).2.2 s3]
      (try simp +decide (implicitDefEqProofs := false) only [go_sem, ↓stk_g, ↓stk_c, ↓reduceIte])
      refine aret_pure (.inr rfl) ?_; simp +decide only [retOf, tget, if_true, if_false, ↓reduceIte, List.map_cons, List.map_nil]
    rw [decide_eq_false s3, hfin (by rw [hli0, l1]; rfl) ⟨s1, s2, s3⟩]
    (try simp +decide (implicitDefEqProofs := false) only [go_sem, ↓stk_g, ↓stk_c, ↓reduceIte])
    refine aret_pure (.inr rfl) ?_; simp +decide only [retOf, tget, if_true, if_false, ↓reduceIte, List.map_cons, List.map_nil]
  (try simp +decide (implicitDefEqProofs := false) only [go_sem, ↓stk_g, ↓stk_c, ↓reduceIte, polCells])
  refine stk_pure (has_ok p.elems (⟨#[117, 108]⟩ : ByteArray) (by omega)) fun v hv => ?_
  subst hv
  cases l2 : decide ((⟨#[117, 108]⟩ : ByteArray) ∈ p.elems)
  · rw [hnol (by rw [hli0, l1, l2]; rfl)]
    (try simp +decide (implicitDefEqProofs := false) only [go_sem, ↓stk_g, ↓stk_c, ↓reduceIte])
    refine aret_pure (.inr rfl) ?_; simp +decide only [retOf, tget, if_true, if_false, ↓reduceIte, List.map_cons, List.map_nil]
  (try simp +decide (implicitDefEqProofs := false) only [go_sem, ↓stk_g, ↓stk_c, ↓reduceIte, polCells])
  refine stk_pure (has_ok p.elems (⟨#[111, 108]⟩ : ByteArray) (by omega)) fun v hv => ?_
  subst hv
  cases l3 : decide ((⟨#[111, 108]⟩ : ByteArray) ∈ p.elems)
  · rw [hnol (by rw [hli0, l1, l2, l3]; rfl)]
    (try simp +decide (implicitDefEqProofs := false) only [go_sem, ↓stk_g, ↓stk_c, ↓reduceIte])
    refine aret_pure (.inr rfl) ?_; simp +decide only [retOf, tget, if_true, if_false, ↓reduceIte, List.map_cons, List.map_nil]
  (try simp +decide (implicitDefEqProofs := false) only [go_sem, ↓stk_g, ↓stk_c, ↓reduceIte, polCells])
  refine stk_pure (has_ok p.schemes jsS (by omega)) fun v hv => ?_
  subst hv
  by_cases s1 : jsS ∈ p.schemes
  · rw [decide_eq_true s1, rp_false fun h => (scheme_not h).1 s1]
    (try simp +decide (implicitDefEqProofs := false) only [go_sem, ↓stk_g, ↓stk_c, ↓reduceIte])
    refine aret_pure (.inr rfl) ?_; simp +decide only [retOf, tget, if_true, if_false, ↓reduceIte, List.map_cons, List.map_nil]
  rw [decide_eq_false s1]
  (try simp +decide (implicitDefEqProofs := false) only [go_sem, ↓stk_g, ↓stk_c, ↓reduceIte, polCells])
  refine stk_pure (has_ok p.schemes dataS (by omega)) fun v hv => ?_
  subst hv
  by_cases s2 : dataS ∈ p.schemes
  · rw [decide_eq_true s2, rp_false fun h => (scheme_not h).2.1 s2]
    (try simp +decide (implicitDefEqProofs := false) only [go_sem, ↓stk_g, ↓stk_c, ↓reduceIte])
    refine aret_pure (.inr rfl) ?_; simp +decide only [retOf, tget, if_true, if_false, ↓reduceIte, List.map_cons, List.map_nil]
  rw [decide_eq_false s2]
  (try simp +decide (implicitDefEqProofs := false) only [go_sem, ↓stk_g, ↓stk_c, ↓reduceIte, polCells])
  refine stk_pure (has_ok p.schemes vbS (by omega)) fun v hv => ?_
  subst hv
  by_cases s3 : vbS ∈ p.schemes
  · rw [decide_eq_true s3, rp_false fun h => (scheme_not h).2.2 s3]
    (try simp +decide (implicitDefEqProofs := false) only [go_sem, ↓stk_g, ↓stk_c, ↓reduceIte])
    refine aret_pure (.inr rfl) ?_; simp +decide only [retOf, tget, if_true, if_false, ↓reduceIte, List.map_cons, List.map_nil]
  rw [decide_eq_false s3, hfin (by rw [hli0, l1, l2, l3]; rfl) ⟨s1, s2, s3⟩]
  (try simp +decide (implicitDefEqProofs := false) only [go_sem, ↓stk_g, ↓stk_c, ↓reduceIte])
  refine aret_pure (.inr rfl) ?_; simp +decide only [retOf, tget, if_true, if_false, ↓reduceIte, List.map_cons, List.map_nil]
end Go.Proofs.YtcplmaffccfbdaaGreatDoor.M
