/-
  The document's own Text of layer 8; the law PolicyTexts: walked.
-/
import Derived.Test.YtcplmaffccfbdaaGreatDoorPr4
namespace Go.Proofs.YtcplmaffccfbdaaGreatDoor.M
open Go.RowKit
attribute [local go_sem] stk_nil stk_skip stk_ops stk_seq stk_block stk_scope stk_exit stk_ret stk_code_exit stk_code_ret stk_ops_exit stk_ops_ret stk_endb stk_endb_exit stk_endb_ret stk_endl stk_endl_exit stk_endl_ret stk_ops_nil stk_q stk_niq niqA flip srcOf stk_bsl side val bside bval uside uval cside cval bndS bndV intA isInt lside lval fside fval faside faval iside ival sxside sxval sizeA slside slval llside llval lenside lenval lenA tupA mmside mmval nkside boolA isBool ev_t ev_c tget put_s put_n lkside lkval menval stk_mk Option.isSome_some isMapA mapA keyA FZ_rfl FZ_any retOf true_and and_true if_true if_false decide_true decide_false Bool.not_true Bool.not_false Nat.zero_add List.map_cons List.map_nil Int.toNat_natCast strRows_len intRows_len List.getD_cons_zero List.getD_cons_succ List.length_cons List.length_nil List.forall_mem_cons List.not_mem_nil false_implies implies_true Int.ofNat_zero Int.natCast_add Int.natCast_one Int.ofNat_one Int.natCast_zero isB isU Bool.false_eq_true beq_self_eq_true Bool.false_beq Bool.true_beq Int.natCast_nonneg undef strRows_take strRows_drop Int.toNat_zero List.drop_zero Bool.and_true oneOr List.all_cons List.all_nil AVal.one Value.oneCell' Bool.true_and List.take_length stk_st' stside stH hp_self hp_hp isnside isnval
set_option linter.unusedVariables false
set_option linter.unusedSimpArgs false
theorem line4_bl (a b c d : Str) : bl (lineS [a, b, c, d]) = bl a ++ (32 :: (bl b ++ (32 :: (bl c ++ (32 :: (bl d ++ [10])))))) := by
  unfold lineS
  rw [bl_app]
  have : bl (joinS [a, b, c, d] spS) = bl a ++ (32 :: (bl b ++ (32 :: (bl c ++ (32 :: bl d))))) := by
    show (Lib.join [bl a, bl b, bl c, bl d] (bl spS)).toArray.toList = _
    simp [Lib.join, List.intercalate, List.intersperse, bl, spS]
  rw [this]
  simp only [List.append_assoc, List.cons_append]
  rfl
def rtextP (p : Pol) : Str := (((((((((((((((⟨#[101, 112, 111, 99, 104, 32]⟩ : Str) ++ itoaS p.epoch : Str) ++ (⟨#[10]⟩ : Str) : Str) ++ linesS (⟨#[101, 108, 101, 109]⟩ : Str) ByteArray.empty p.elems : Str) ++ linesS (⟨#[97, 116, 116, 114]⟩ : Str) ByteArray.empty p.attrs : Str) ++ linesS (⟨#[115, 99, 104, 101, 109, 101]⟩ : Str) ByteArray.empty p.schemes : Str) ++ linesS (⟨#[99, 108, 97, 115, 115]⟩ : Str) ByteArray.empty p.classes : Str) ++ linesS (⟨#[112, 114, 111, 112]⟩ : Str) ByteArray.empty p.props : Str) ++ (⟨#[99, 97, 112, 115, 32]⟩ : Str) : Str) ++ itoaS p.depth : Str) ++ (⟨#[32]⟩ : Str) : Str) ++ itoaS p.nodes : Str) ++ (⟨#[32]⟩ : Str) : Str) ++ itoaS p.bytes : Str) ++ (⟨#[10]⟩ : Str) : Str)
theorem rtextP_eq (p : Pol) : rtextP p = textP p := by
  have e : textP p = (((((((ByteArray.empty ++ lineS [(⟨#[101, 112, 111, 99, 104]⟩ : Str), itoaS p.epoch] : Str) ++ linesS (⟨#[101, 108, 101, 109]⟩ : Str) ByteArray.empty p.elems : Str) ++ linesS (⟨#[97, 116, 116, 114]⟩ : Str) ByteArray.empty p.attrs : Str) ++ linesS (⟨#[115, 99, 104, 101, 109, 101]⟩ : Str) ByteArray.empty p.schemes : Str) ++ linesS (⟨#[99, 108, 97, 115, 115]⟩ : Str) ByteArray.empty p.classes : Str) ++ linesS (⟨#[112, 114, 111, 112]⟩ : Str) ByteArray.empty p.props : Str) ++ lineS [(⟨#[99, 97, 112, 115]⟩ : Str), itoaS p.depth, itoaS p.nodes, itoaS p.bytes] : Str) := by
    show linesS (⟨#[112, 114, 111, 112]⟩ : Str) (linesS (⟨#[99, 108, 97, 115, 115]⟩ : Str) (linesS (⟨#[115, 99, 104, 101, 109, 101]⟩ : Str) (linesS (⟨#[97, 116, 116, 114]⟩ : Str) (linesS (⟨#[101, 108, 101, 109]⟩ : Str) (ByteArray.empty ++ lineS [(⟨#[101, 112, 111, 99, 104]⟩ : Str), itoaS p.epoch]) p.elems) p.attrs) p.schemes) p.classes) p.props ++ _ = _
    rw [lines_app (⟨#[112, 114, 111, 112]⟩ : Str), lines_app (⟨#[99, 108, 97, 115, 115]⟩ : Str), lines_app (⟨#[115, 99, 104, 101, 109, 101]⟩ : Str), lines_app (⟨#[97, 116, 116, 114]⟩ : Str), lines_app (⟨#[101, 108, 101, 109]⟩ : Str)]
  rw [e]
  apply bl_inj
  unfold rtextP
  simp only [bl_app, line_bl, line4_bl, List.append_assoc, List.cons_append, List.nil_append]
  rfl
def c_rText : AFn := ⟨1, 50, [2, 3],
  .seq (.ops [⟨(some 1), none, .e (.box 25 (.tmp 0))⟩,
      ⟨(some 2), none, .q (.mv (.const (.string ByteArray.empty)))⟩,
      ⟨(some 3), none, .q (.mv (.const (.int .i64 0)))⟩])
  (.seq (.seq (.ops [⟨(some 5), none, .q (.ld true 9 (.tmp 1))⟩,
      ⟨(some 6), none, .e (.call 24 [(.tmp 5)])⟩,
      ⟨(some 7), none, .q (.un .not (.tmp 6))⟩])
  (.cond (.tmp 7)
    (.seq (.ops [⟨(some 2), none, .q (.mv (.const (.string ByteArray.empty)))⟩,
        ⟨(some 3), none, .q (.mv (.const (.int .i64 2)))⟩])
    (.ret))
    (.skip)))
  (.seq (.ops [⟨(some 8), none, .q (.fad 0 1 (.tmp 1))⟩,
      ⟨(some 9), none, .q (.ld false 1 (.tmp 8))⟩,
      ⟨(some 13), none, .q (.fad 1 1 (.tmp 1))⟩,
      ⟨(some 14), none, .q (.ld false 1 (.tmp 13))⟩,
      ⟨(some 17), none, .q (.fad 2 1 (.tmp 1))⟩,
      ⟨(some 18), none, .q (.ld false 1 (.tmp 17))⟩,
      ⟨(some 21), none, .q (.fad 3 1 (.tmp 1))⟩,
      ⟨(some 22), none, .q (.ld false 1 (.tmp 21))⟩,
      ⟨(some 25), none, .q (.fad 4 1 (.tmp 1))⟩,
      ⟨(some 26), none, .q (.ld false 1 (.tmp 25))⟩,
      ⟨(some 29), none, .q (.fad 5 1 (.tmp 1))⟩,
      ⟨(some 30), none, .q (.ld false 1 (.tmp 29))⟩,
      ⟨(some 10), none, .e (.callq 37 [(.tmp 9)])⟩,
      ⟨(some 11), none, .q (.bin .add .num (.const (.string ⟨#[101, 112, 111, 99, 104, 32]⟩)) (.tmp 10))⟩,
      ⟨(some 12), none, .q (.bin .add .num (.tmp 11) (.const (.string ⟨#[10]⟩)))⟩,
      ⟨(some 15), none, .e (.callq 38 [(.const (.string ⟨#[101, 108, 101, 109]⟩)), (.tmp 14)])⟩,
      ⟨(some 16), none, .q (.bin .add .num (.tmp 12) (.tmp 15))⟩,
      ⟨(some 19), none, .e (.callq 38 [(.const (.string ⟨#[97, 116, 116, 114]⟩)), (.tmp 18)])⟩,
      ⟨(some 20), none, .q (.bin .add .num (.tmp 16) (.tmp 19))⟩,
      ⟨(some 23), none, .e (.callq 38 [(.const (.string ⟨#[115, 99, 104, 101, 109, 101]⟩)), (.tmp 22)])⟩,
      ⟨(some 24), none, .q (.bin .add .num (.tmp 20) (.tmp 23))⟩,
      ⟨(some 27), none, .e (.callq 38 [(.const (.string ⟨#[99, 108, 97, 115, 115]⟩)), (.tmp 26)])⟩,
      ⟨(some 28), none, .q (.bin .add .num (.tmp 24) (.tmp 27))⟩,
      ⟨(some 31), none, .e (.call 38 [(.const (.string ⟨#[112, 114, 111, 112]⟩)), (.tmp 30)])⟩,
      ⟨(some 32), none, .q (.bin .add .num (.tmp 28) (.tmp 31))⟩,
      ⟨(some 4), none, .q (.mv (.tmp 32))⟩])
  (.seq (.ops [⟨(some 33), none, .q (.mv (.tmp 4))⟩,
      ⟨(some 34), none, .q (.bin .add .num (.tmp 33) (.const (.string ⟨#[99, 97, 112, 115, 32]⟩)))⟩,
      ⟨(some 35), none, .q (.fad 6 1 (.tmp 1))⟩,
      ⟨(some 36), none, .q (.ld false 1 (.tmp 35))⟩,
      ⟨(some 40), none, .q (.fad 7 1 (.tmp 1))⟩,
      ⟨(some 41), none, .q (.ld false 1 (.tmp 40))⟩,
      ⟨(some 45), none, .q (.fad 8 1 (.tmp 1))⟩,
      ⟨(some 46), none, .q (.ld false 1 (.tmp 45))⟩,
      ⟨(some 37), none, .e (.callq 37 [(.tmp 36)])⟩,
      ⟨(some 38), none, .q (.bin .add .num (.tmp 34) (.tmp 37))⟩,
      ⟨(some 39), none, .q (.bin .add .num (.tmp 38) (.const (.string ⟨#[32]⟩)))⟩,
      ⟨(some 42), none, .e (.callq 37 [(.tmp 41)])⟩,
      ⟨(some 43), none, .q (.bin .add .num (.tmp 39) (.tmp 42))⟩,
      ⟨(some 44), none, .q (.bin .add .num (.tmp 43) (.const (.string ⟨#[32]⟩)))⟩,
      ⟨(some 47), none, .e (.call 37 [(.tmp 46)])⟩,
      ⟨(some 48), none, .q (.bin .add .num (.tmp 44) (.tmp 47))⟩,
      ⟨(some 49), none, .q (.bin .add .num (.tmp 48) (.const (.string ⟨#[10]⟩)))⟩,
      ⟨(some 2), none, .q (.mv (.tmp 49))⟩,
      ⟨(some 3), none, .q (.mv (.const (.int .i64 0)))⟩])
  (.ret)))), []⟩
theorem k_rText : compF Tryz.prog 19 = some c_rText := by kernel_rfl
set_option maxHeartbeats 8000000 in
theorem rtext_ok {W : World} (p : Pol) (F : Fits p) : ACalls Tryz.prog W 19 [.agg (polCells p)] AHeap.none fun v _ => v = textR p := by
  have F1 := F.elems
  have F2 := F.attrs
  have F3 := F.schemes
  have F4 := F.classes
  have F5 := F.props
  have Z1 := F.all p.elems (by simp)
  have Z2 := F.all p.attrs (by simp)
  have Z3 := F.all p.schemes (by simp)
  have Z4 := F.all p.classes (by simp)
  have Z5 := F.all p.props (by simp)
  refine fn_run follows k_rText rfl ?_
  simp only [c_rText, aretC_nil, List.zipIdx_cons, List.zipIdx_nil, List.map_cons, List.map_nil, Nat.zero_add]
  (try simp +decide (implicitDefEqProofs := false) only [go_sem, ↓stk_g, ↓stk_c, ↓reduceIte])
  rw [stk_box]
  refine ⟨by rfl, fun b1 h1 => ?_⟩
  (try simp +decide (implicitDefEqProofs := false) only [go_sem, ↓stk_g, ↓stk_c, ↓reduceIte, hp_self, polCells, lay, oneOr, List.take_succ_cons, List.take_zero, List.drop_succ_cons, List.drop_zero, List.nil_append, List.cons_append, Option.getD_some, Nat.reduceAdd, Nat.reduceLeDiff, List.append_nil, and_self, List.all_cons, List.all_nil])
  refine stk_pure (rright_ok p F) fun v hv => ?_
  subst hv
  unfold textR
  cases hr : rightP p
  · (try simp +decide (implicitDefEqProofs := false) only [go_sem, ↓stk_g, ↓stk_c, ↓reduceIte])
    refine aret_pure (.inr rfl) ?_; simp +decide only [retOf, tget, if_true, if_false, ↓reduceIte, List.map_cons, List.map_nil]
    try rfl
  obtain ⟨r1, r2, r3, r4, r5, r6, r7, r8⟩ := rightP_nums hr
  have z0 := itoaS_size (n := p.epoch) (by omega) (by omega)
  have z6 := itoaS_size (n := p.depth) (by omega) (by omega)
  have z7 := itoaS_size (n := p.nodes) (by omega) (by omega)
  have z8 := itoaS_size (n := p.bytes) (by omega) (by omega)
  have e0 : ByteArray.empty.size = 0 := rfl
  have y1 := linesS_size (⟨#[101, 108, 101, 109]⟩ : Str) (by decide) p.elems ByteArray.empty Z1
  have y2 := linesS_size (⟨#[97, 116, 116, 114]⟩ : Str) (by decide) p.attrs ByteArray.empty Z2
  have y3 := linesS_size (⟨#[115, 99, 104, 101, 109, 101]⟩ : Str) (by decide) p.schemes ByteArray.empty Z3
  have y4 := linesS_size (⟨#[99, 108, 97, 115, 115]⟩ : Str) (by decide) p.classes ByteArray.empty Z4
  have y5 := linesS_size (⟨#[112, 114, 111, 112]⟩ : Str) (by decide) p.props ByteArray.empty Z5
  have q0 : (⟨#[101, 112, 111, 99, 104, 32]⟩ : ByteArray).size = 6 := rfl
  have q1 : (⟨#[10]⟩ : ByteArray).size = 1 := rfl
  have q2 : (⟨#[99, 97, 112, 115, 32]⟩ : ByteArray).size = 5 := rfl
  have q3 : (⟨#[32]⟩ : ByteArray).size = 1 := rfl
  have u0 : 6 + (itoaS p.epoch).size ≤ 9223372036854775807 := by omega
  have u1 : 6 + (itoaS p.epoch).size + 1 ≤ 9223372036854775807 := by omega
  have u2 : 6 + (itoaS p.epoch).size + 1 + (linesS (⟨#[101, 108, 101, 109]⟩ : Str) ByteArray.empty p.elems).size ≤ 9223372036854775807 := by omega
  have u3 : 6 + (itoaS p.epoch).size + 1 + (linesS (⟨#[101, 108, 101, 109]⟩ : Str) ByteArray.empty p.elems).size + (linesS (⟨#[97, 116, 116, 114]⟩ : Str) ByteArray.empty p.attrs).size ≤ 9223372036854775807 := by omega
  have u4 : 6 + (itoaS p.epoch).size + 1 + (linesS (⟨#[101, 108, 101, 109]⟩ : Str) ByteArray.empty p.elems).size + (linesS (⟨#[97, 116, 116, 114]⟩ : Str) ByteArray.empty p.attrs).size + (linesS (⟨#[115, 99, 104, 101, 109, 101]⟩ : Str) ByteArray.empty p.schemes).size ≤ 9223372036854775807 := by omega
  have u5 : 6 + (itoaS p.epoch).size + 1 + (linesS (⟨#[101, 108, 101, 109]⟩ : Str) ByteArray.empty p.elems).size + (linesS (⟨#[97, 116, 116, 114]⟩ : Str) ByteArray.empty p.attrs).size + (linesS (⟨#[115, 99, 104, 101, 109, 101]⟩ : Str) ByteArray.empty p.schemes).size + (linesS (⟨#[99, 108, 97, 115, 115]⟩ : Str) ByteArray.empty p.classes).size ≤ 9223372036854775807 := by omega
  have u6 : 6 + (itoaS p.epoch).size + 1 + (linesS (⟨#[101, 108, 101, 109]⟩ : Str) ByteArray.empty p.elems).size + (linesS (⟨#[97, 116, 116, 114]⟩ : Str) ByteArray.empty p.attrs).size + (linesS (⟨#[115, 99, 104, 101, 109, 101]⟩ : Str) ByteArray.empty p.schemes).size + (linesS (⟨#[99, 108, 97, 115, 115]⟩ : Str) ByteArray.empty p.classes).size + (linesS (⟨#[112, 114, 111, 112]⟩ : Str) ByteArray.empty p.props).size ≤ 9223372036854775807 := by omega
  have u7 : 6 + (itoaS p.epoch).size + 1 + (linesS (⟨#[101, 108, 101, 109]⟩ : Str) ByteArray.empty p.elems).size + (linesS (⟨#[97, 116, 116, 114]⟩ : Str) ByteArray.empty p.attrs).size + (linesS (⟨#[115, 99, 104, 101, 109, 101]⟩ : Str) ByteArray.empty p.schemes).size + (linesS (⟨#[99, 108, 97, 115, 115]⟩ : Str) ByteArray.empty p.classes).size + (linesS (⟨#[112, 114, 111, 112]⟩ : Str) ByteArray.empty p.props).size + 5 ≤ 9223372036854775807 := by omega
  have u8 : 6 + (itoaS p.epoch).size + 1 + (linesS (⟨#[101, 108, 101, 109]⟩ : Str) ByteArray.empty p.elems).size + (linesS (⟨#[97, 116, 116, 114]⟩ : Str) ByteArray.empty p.attrs).size + (linesS (⟨#[115, 99, 104, 101, 109, 101]⟩ : Str) ByteArray.empty p.schemes).size + (linesS (⟨#[99, 108, 97, 115, 115]⟩ : Str) ByteArray.empty p.classes).size + (linesS (⟨#[112, 114, 111, 112]⟩ : Str) ByteArray.empty p.props).size + 5 + (itoaS p.depth).size ≤ 9223372036854775807 := by omega
  have u9 : 6 + (itoaS p.epoch).size + 1 + (linesS (⟨#[101, 108, 101, 109]⟩ : Str) ByteArray.empty p.elems).size + (linesS (⟨#[97, 116, 116, 114]⟩ : Str) ByteArray.empty p.attrs).size + (linesS (⟨#[115, 99, 104, 101, 109, 101]⟩ : Str) ByteArray.empty p.schemes).size + (linesS (⟨#[99, 108, 97, 115, 115]⟩ : Str) ByteArray.empty p.classes).size + (linesS (⟨#[112, 114, 111, 112]⟩ : Str) ByteArray.empty p.props).size + 5 + (itoaS p.depth).size + 1 ≤ 9223372036854775807 := by omega
  have u10 : 6 + (itoaS p.epoch).size + 1 + (linesS (⟨#[101, 108, 101, 109]⟩ : Str) ByteArray.empty p.elems).size + (linesS (⟨#[97, 116, 116, 114]⟩ : Str) ByteArray.empty p.attrs).size + (linesS (⟨#[115, 99, 104, 101, 109, 101]⟩ : Str) ByteArray.empty p.schemes).size + (linesS (⟨#[99, 108, 97, 115, 115]⟩ : Str) ByteArray.empty p.classes).size + (linesS (⟨#[112, 114, 111, 112]⟩ : Str) ByteArray.empty p.props).size + 5 + (itoaS p.depth).size + 1 + (itoaS p.nodes).size ≤ 9223372036854775807 := by omega
  have u11 : 6 + (itoaS p.epoch).size + 1 + (linesS (⟨#[101, 108, 101, 109]⟩ : Str) ByteArray.empty p.elems).size + (linesS (⟨#[97, 116, 116, 114]⟩ : Str) ByteArray.empty p.attrs).size + (linesS (⟨#[115, 99, 104, 101, 109, 101]⟩ : Str) ByteArray.empty p.schemes).size + (linesS (⟨#[99, 108, 97, 115, 115]⟩ : Str) ByteArray.empty p.classes).size + (linesS (⟨#[112, 114, 111, 112]⟩ : Str) ByteArray.empty p.props).size + 5 + (itoaS p.depth).size + 1 + (itoaS p.nodes).size + 1 ≤ 9223372036854775807 := by omega
  have u12 : 6 + (itoaS p.epoch).size + 1 + (linesS (⟨#[101, 108, 101, 109]⟩ : Str) ByteArray.empty p.elems).size + (linesS (⟨#[97, 116, 116, 114]⟩ : Str) ByteArray.empty p.attrs).size + (linesS (⟨#[115, 99, 104, 101, 109, 101]⟩ : Str) ByteArray.empty p.schemes).size + (linesS (⟨#[99, 108, 97, 115, 115]⟩ : Str) ByteArray.empty p.classes).size + (linesS (⟨#[112, 114, 111, 112]⟩ : Str) ByteArray.empty p.props).size + 5 + (itoaS p.depth).size + 1 + (itoaS p.nodes).size + 1 + (itoaS p.bytes).size ≤ 9223372036854775807 := by omega
  have u13 : 6 + (itoaS p.epoch).size + 1 + (linesS (⟨#[101, 108, 101, 109]⟩ : Str) ByteArray.empty p.elems).size + (linesS (⟨#[97, 116, 116, 114]⟩ : Str) ByteArray.empty p.attrs).size + (linesS (⟨#[115, 99, 104, 101, 109, 101]⟩ : Str) ByteArray.empty p.schemes).size + (linesS (⟨#[99, 108, 97, 115, 115]⟩ : Str) ByteArray.empty p.classes).size + (linesS (⟨#[112, 114, 111, 112]⟩ : Str) ByteArray.empty p.props).size + 5 + (itoaS p.depth).size + 1 + (itoaS p.nodes).size + 1 + (itoaS p.bytes).size + 1 ≤ 9223372036854775807 := by omega
  (try simp +decide (implicitDefEqProofs := false) only [go_sem, ↓stk_g, ↓stk_c, ↓reduceIte, hp_self, polCells, ByteArray.size_append, q0, q1, q2, q3, u0, u1, u2, u3, u4, u5, u6, u7, u8, u9, u10, u11, u12, u13, lay, oneOr, List.take_succ_cons, List.take_zero, List.drop_succ_cons, List.drop_zero, List.nil_append, List.cons_append, Option.getD_some, Nat.reduceAdd, Nat.reduceLeDiff, List.append_nil, and_self, List.all_cons, List.all_nil])
  refine stk_callq (decimal_ok p.epoch (by omega) (by omega)) fun v hv => ?_
  subst hv
  (try simp +decide (implicitDefEqProofs := false) only [go_sem, ↓stk_g, ↓stk_c, ↓reduceIte, hp_self, polCells, ByteArray.size_append, q0, q1, q2, q3, u0, u1, u2, u3, u4, u5, u6, u7, u8, u9, u10, u11, u12, u13, lay, oneOr, List.take_succ_cons, List.take_zero, List.drop_succ_cons, List.drop_zero, List.nil_append, List.cons_append, Option.getD_some, Nat.reduceAdd, Nat.reduceLeDiff, List.append_nil, and_self, List.all_cons, List.all_nil])
  refine stk_callq (lines_ok (⟨#[101, 108, 101, 109]⟩ : Str) p.elems (by decide) F1 Z1) fun v hv => ?_
  subst hv
  (try simp +decide (implicitDefEqProofs := false) only [go_sem, ↓stk_g, ↓stk_c, ↓reduceIte, hp_self, polCells, ByteArray.size_append, q0, q1, q2, q3, u0, u1, u2, u3, u4, u5, u6, u7, u8, u9, u10, u11, u12, u13, lay, oneOr, List.take_succ_cons, List.take_zero, List.drop_succ_cons, List.drop_zero, List.nil_append, List.cons_append, Option.getD_some, Nat.reduceAdd, Nat.reduceLeDiff, List.append_nil, and_self, List.all_cons, List.all_nil])
  refine stk_callq (lines_ok (⟨#[97, 116, 116, 114]⟩ : Str) p.attrs (by decide) F2 Z2) fun v hv => ?_
  subst hv
  (try simp +decide (implicitDefEqProofs := false) only [go_sem, ↓stk_g, ↓stk_c, ↓reduceIte, hp_self, polCells, ByteArray.size_append, q0, q1, q2, q3, u0, u1, u2, u3, u4, u5, u6, u7, u8, u9, u10, u11, u12, u13, lay, oneOr, List.take_succ_cons, List.take_zero, List.drop_succ_cons, List.drop_zero, List.nil_append, List.cons_append, Option.getD_some, Nat.reduceAdd, Nat.reduceLeDiff, List.append_nil, and_self, List.all_cons, List.all_nil])
  refine stk_callq (lines_ok (⟨#[115, 99, 104, 101, 109, 101]⟩ : Str) p.schemes (by decide) F3 Z3) fun v hv => ?_
  subst hv
  (try simp +decide (implicitDefEqProofs := false) only [go_sem, ↓stk_g, ↓stk_c, ↓reduceIte, hp_self, polCells, ByteArray.size_append, q0, q1, q2, q3, u0, u1, u2, u3, u4, u5, u6, u7, u8, u9, u10, u11, u12, u13, lay, oneOr, List.take_succ_cons, List.take_zero, List.drop_succ_cons, List.drop_zero, List.nil_append, List.cons_append, Option.getD_some, Nat.reduceAdd, Nat.reduceLeDiff, List.append_nil, and_self, List.all_cons, List.all_nil])
  refine stk_callq (lines_ok (⟨#[99, 108, 97, 115, 115]⟩ : Str) p.classes (by decide) F4 Z4) fun v hv => ?_
  subst hv
  (try simp +decide (implicitDefEqProofs := false) only [go_sem, ↓stk_g, ↓stk_c, ↓reduceIte, hp_self, polCells, ByteArray.size_append, q0, q1, q2, q3, u0, u1, u2, u3, u4, u5, u6, u7, u8, u9, u10, u11, u12, u13, lay, oneOr, List.take_succ_cons, List.take_zero, List.drop_succ_cons, List.drop_zero, List.nil_append, List.cons_append, Option.getD_some, Nat.reduceAdd, Nat.reduceLeDiff, List.append_nil, and_self, List.all_cons, List.all_nil])
  refine stk_pure (lines_ok (⟨#[112, 114, 111, 112]⟩ : Str) p.props (by decide) F5 Z5) fun v hv => ?_
  subst hv
  (try simp +decide (implicitDefEqProofs := false) only [go_sem, ↓stk_g, ↓stk_c, ↓reduceIte, hp_self, polCells, ByteArray.size_append, q0, q1, q2, q3, u0, u1, u2, u3, u4, u5, u6, u7, u8, u9, u10, u11, u12, u13, lay, oneOr, List.take_succ_cons, List.take_zero, List.drop_succ_cons, List.drop_zero, List.nil_append, List.cons_append, Option.getD_some, Nat.reduceAdd, Nat.reduceLeDiff, List.append_nil, and_self, List.all_cons, List.all_nil])
  refine stk_callq (decimal_ok p.depth (by omega) (by omega)) fun v hv => ?_
  subst hv
  (try simp +decide (implicitDefEqProofs := false) only [go_sem, ↓stk_g, ↓stk_c, ↓reduceIte, hp_self, polCells, ByteArray.size_append, q0, q1, q2, q3, u0, u1, u2, u3, u4, u5, u6, u7, u8, u9, u10, u11, u12, u13, lay, oneOr, List.take_succ_cons, List.take_zero, List.drop_succ_cons, List.drop_zero, List.nil_append, List.cons_append, Option.getD_some, Nat.reduceAdd, Nat.reduceLeDiff, List.append_nil, and_self, List.all_cons, List.all_nil])
  refine stk_callq (decimal_ok p.nodes (by omega) (by omega)) fun v hv => ?_
  subst hv
  (try simp +decide (implicitDefEqProofs := false) only [go_sem, ↓stk_g, ↓stk_c, ↓reduceIte, hp_self, polCells, ByteArray.size_append, q0, q1, q2, q3, u0, u1, u2, u3, u4, u5, u6, u7, u8, u9, u10, u11, u12, u13, lay, oneOr, List.take_succ_cons, List.take_zero, List.drop_succ_cons, List.drop_zero, List.nil_append, List.cons_append, Option.getD_some, Nat.reduceAdd, Nat.reduceLeDiff, List.append_nil, and_self, List.all_cons, List.all_nil])
  refine stk_pure (decimal_ok p.bytes (by omega) (by omega)) fun v hv => ?_
  subst hv
  (try simp +decide (implicitDefEqProofs := false) only [go_sem, ↓stk_g, ↓stk_c, ↓reduceIte, hp_self, polCells, ByteArray.size_append, q0, q1, q2, q3, u0, u1, u2, u3, u4, u5, u6, u7, u8, u9, u10, u11, u12, u13, lay, oneOr, List.take_succ_cons, List.take_zero, List.drop_succ_cons, List.drop_zero, List.nil_append, List.cons_append, Option.getD_some, Nat.reduceAdd, Nat.reduceLeDiff, List.append_nil, and_self, List.all_cons, List.all_nil])
  refine aret_pure (.inr rfl) ?_
  simp +decide only [retOf, tget, if_true, if_false, ↓reduceIte, List.map_cons, List.map_nil]
  rw [← rtextP_eq]
  rfl
end Go.Proofs.YtcplmaffccfbdaaGreatDoor.M
