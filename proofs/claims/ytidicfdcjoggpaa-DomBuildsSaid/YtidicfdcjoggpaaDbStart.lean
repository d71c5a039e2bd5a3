/-
  The document's tree builder, a start: walked.
-/
import Derived.Test.YtidicfdcjoggpaaDbPut
namespace Go.Proofs.Ytidicfdcjoggpaa.M
open Go.RowKit
attribute [local go_sem] stk_nil stk_skip stk_ops stk_seq stk_block stk_scope stk_exit stk_ret stk_code_exit stk_code_ret stk_ops_exit stk_ops_ret stk_endb stk_endb_exit stk_endb_ret stk_endl stk_endl_exit stk_endl_ret stk_ops_nil stk_q stk_niq niqA flip srcOf stk_bsl side val bside bval uside uval cside cval bndS bndV intA isInt lside lval fside fval faside faval iside ival sxside sxval sizeA slside slval llside llval lenside lenval lenA tupA mmside mmval nkside boolA isBool ev_t ev_c tget put_s put_n lkside lkval menval stk_mk Option.isSome_some isMapA mapA keyA FZ_rfl FZ_any retOf true_and and_true if_true if_false decide_true decide_false Bool.not_true Bool.not_false Nat.zero_add List.map_cons List.map_nil Int.toNat_natCast strRows_len intRows_len List.getD_cons_zero List.getD_cons_succ List.length_cons List.length_nil List.forall_mem_cons List.not_mem_nil false_implies implies_true Int.ofNat_zero Int.natCast_add Int.natCast_one Int.ofNat_one Int.natCast_zero isB isU Bool.false_eq_true beq_self_eq_true Bool.false_beq Bool.true_beq Int.natCast_nonneg undef strRows_take strRows_drop Int.toNat_zero List.drop_zero Bool.and_true oneOr List.all_cons List.all_nil AVal.one Value.oneCell' Bool.true_and List.take_length stk_st' stside stH hp_self hp_hp isnside isnval
set_option linter.unusedVariables false
set_option linter.unusedSimpArgs false
theorem op2R_of {nm : Str} {l : List Fl} {op : List Nat} (b : Bool) (h : liR nm l op = b) : op2R nm l op = if b = true then cutR op (innerR l [bLi, bUl, bOl] op) else op := by
  unfold op2R; rw [h]
def c_start04 : AFn := ⟨3, 81, [],
  .seq (.seq (.ops [⟨(some 7), none, .q (.mv (.tmp 1))⟩,
      ⟨(some 8), none, .e (.call 20 [(.tmp 7)])⟩])
  (.cond (.tmp 8)
    (.ops [⟨(some 9), none, .q (.mv (.tmp 0))⟩,
        ⟨(some 10), none, .e (.call 45 [(.tmp 9), (.const (.string ⟨#[112]⟩))])⟩])
    (.skip)))
  (.seq (.ops [⟨(some 11), none, .q (.mv (.tmp 0))⟩,
      ⟨(some 12), none, .e (.bsl 9 1 [(.const (.string ⟨#[108, 105]⟩)), (.const (.string ⟨#[117, 108]⟩)), (.const (.string ⟨#[111, 108]⟩))])⟩,
      ⟨(some 13), none, .e (.call 48 [(.tmp 11), (.tmp 12)])⟩,
      ⟨(some 6), none, .q (.mv (.tmp 13))⟩])
  (.seq (.seq (.ops [⟨(some 14), none, .q (.mv (.tmp 1))⟩,
      ⟨(some 15), none, .q (.bin .eql .num (.tmp 14) (.const (.string ⟨#[108, 105]⟩)))⟩,
      ⟨(some 16), none, .q (.mv (.tmp 15))⟩,
      ⟨(some 17), (some (16, true)), .q (.mv (.tmp 6))⟩,
      ⟨(some 18), (some (16, true)), .q (.bin .gtr .num (.tmp 17) (.const (.int .i64 0)))⟩,
      ⟨(some 19), none, .q (.pick (.tmp 16) (.tmp 18) (.const (.bool false)))⟩,
      ⟨(some 20), none, .q (.mv (.tmp 19))⟩,
      ⟨(some 21), (some (20, true)), .q (.mv (.tmp 0))⟩,
      ⟨(some 22), (some (20, true)), .q (.nck (.tmp 21))⟩,
      ⟨(some 23), (some (20, true)), .q (.fad 0 1 (.tmp 22))⟩,
      ⟨(some 24), (some (20, true)), .q (.ld false 1 (.tmp 23))⟩,
      ⟨(some 25), (some (20, true)), .q (.mv (.tmp 0))⟩,
      ⟨(some 26), (some (20, true)), .q (.nck (.tmp 25))⟩,
      ⟨(some 27), (some (20, true)), .q (.fad 1 1 (.tmp 26))⟩,
      ⟨(some 28), (some (20, true)), .q (.ld false 1 (.tmp 27))⟩,
      ⟨(some 29), (some (20, true)), .q (.mv (.tmp 6))⟩,
      ⟨(some 30), (some (20, true)), .q (.bin .sub .num (.tmp 29) (.const (.int .i64 1)))⟩,
      ⟨(some 31), (some (20, true)), .q (.ixa 1 (.tmp 28) (.tmp 30))⟩,
      ⟨(some 32), (some (20, true)), .q (.ld false 1 (.tmp 31))⟩,
      ⟨(some 33), (some (20, true)), .q (.ixa 5 (.tmp 24) (.tmp 32))⟩,
      ⟨(some 34), (some (20, true)), .q (.fad 0 4 (.tmp 33))⟩,
      ⟨(some 35), (some (20, true)), .q (.fad 0 1 (.tmp 34))⟩,
      ⟨(some 36), (some (20, true)), .q (.ld false 1 (.tmp 35))⟩,
      ⟨(some 37), (some (20, true)), .q (.bin .eql .num (.tmp 36) (.const (.string ⟨#[108, 105]⟩)))⟩,
      ⟨(some 38), none, .q (.pick (.tmp 20) (.tmp 37) (.const (.bool false)))⟩])
  (.cond (.tmp 38)
    (.ops [⟨(some 39), none, .q (.mv (.tmp 0))⟩,
        ⟨(some 40), none, .q (.mv (.tmp 0))⟩,
        ⟨(some 41), none, .q (.nck (.tmp 40))⟩,
        ⟨(some 42), none, .q (.fad 1 1 (.tmp 41))⟩,
        ⟨(some 43), none, .q (.ld false 1 (.tmp 42))⟩,
        ⟨(some 44), none, .q (.mv (.tmp 6))⟩,
        ⟨(some 45), none, .q (.bin .sub .num (.tmp 44) (.const (.int .i64 1)))⟩,
        ⟨(some 46), none, .q (.lsl 1 (.tmp 43) none (some (.tmp 45)) none)⟩,
        ⟨(some 47), none, .q (.nck (.tmp 39))⟩,
        ⟨(some 48), none, .q (.fad 1 1 (.tmp 47))⟩,
        ⟨none, none, .e (.st 1 (.tmp 48) (.tmp 46))⟩])
    (.skip)))
  (.seq (.ops [⟨(some 49), none, .q (.mv (.tmp 0))⟩,
      ⟨(some 50), none, .q (.mv (.tmp 1))⟩,
      ⟨(some 51), none, .q (.mv (.tmp 2))⟩,
      ⟨(some 52), none, .q (.bld [(.string ByteArray.empty), (.slice none 0 0), (.string ByteArray.empty), (.slice none 0 0)] [(0, 1, (.tmp 50)), (1, 1, (.tmp 51))])⟩,
      ⟨(some 53), none, .e (.call 43 [(.tmp 49), (.tmp 52)])⟩])
  (.seq (.ops [⟨(some 54), none, .q (.mv (.tmp 1))⟩,
      ⟨(some 55), none, .e (.call 18 [(.tmp 54)])⟩,
      ⟨(some 56), none, .q (.un .not (.tmp 55))⟩])
  (.cond (.tmp 56)
    (.seq (.ops [⟨(some 57), none, .q (.mv (.tmp 0))⟩,
        ⟨(some 58), none, .q (.mv (.tmp 0))⟩,
        ⟨(some 59), none, .q (.nck (.tmp 58))⟩,
        ⟨(some 60), none, .q (.fad 1 1 (.tmp 59))⟩,
        ⟨(some 61), none, .q (.ld false 1 (.tmp 60))⟩,
        ⟨(some 62), none, .q (.mv (.tmp 0))⟩,
        ⟨(some 63), none, .q (.nck (.tmp 62))⟩,
        ⟨(some 64), none, .q (.fad 0 1 (.tmp 63))⟩,
        ⟨(some 65), none, .q (.ld false 1 (.tmp 64))⟩,
        ⟨(some 66), none, .q (.len false (.tmp 65))⟩,
        ⟨(some 67), none, .q (.bin .sub .num (.tmp 66) (.const (.int .i64 1)))⟩,
        ⟨(some 68), none, .e (.bsl 3 1 [(.tmp 67)])⟩,
        ⟨(some 69), none, .e (.app 3 1 8 false (.tmp 61) (.tmp 68))⟩,
        ⟨(some 70), none, .q (.nck (.tmp 57))⟩,
        ⟨(some 71), none, .q (.fad 1 1 (.tmp 70))⟩,
        ⟨none, none, .e (.st 1 (.tmp 71) (.tmp 69))⟩])
    (.seq (.ops [⟨(some 72), none, .q (.mv (.tmp 0))⟩,
        ⟨(some 73), none, .q (.nck (.tmp 72))⟩,
        ⟨(some 74), none, .q (.fad 1 1 (.tmp 73))⟩,
        ⟨(some 75), none, .q (.ld false 1 (.tmp 74))⟩,
        ⟨(some 76), none, .q (.len false (.tmp 75))⟩,
        ⟨(some 77), none, .q (.bin .gtr .num (.tmp 76) (.const (.int .i64 64)))⟩])
    (.cond (.tmp 77)
      (.ops [⟨(some 78), none, .q (.mv (.tmp 0))⟩,
          ⟨(some 79), none, .q (.nck (.tmp 78))⟩,
          ⟨(some 80), none, .q (.fad 2 1 (.tmp 79))⟩,
          ⟨none, none, .e (.st 1 (.tmp 80) (.const (.bool true)))⟩])
      (.skip))))
    (.skip)))))), []⟩
theorem k_start04 : compF Try.prog 44 = some c_start04 := by kernel_rfl
set_option maxHeartbeats 16000000 in
theorem start04_ok {W : World} (x : FB) (hx : FW x) (hl : x.l.length + 1 ≤ 1000000) (hd : x.op.length + 1 ≤ 1000000) {H : AHeap} {g : Nat} (h : FBo H g x) (nm : Str) (ats : List Attr) :
    ACalls Try.prog W 44 [.v (.pointer (some ⟨g, 0, none⟩)), .v (.string nm), .sl false 2 (ats.map attrRow)] H fun _ H' => FBo H' g (startF nm ats x) := by
  refine fn_run follows k_start04 rfl ?_
  simp only [c_start04, aretC_nil, List.zipIdx_cons, List.zipIdx_nil, List.map_cons, List.map_nil, Nat.zero_add]
  rw [stk_seq]
  refine stk_cut (fun s3 => tget s3.tm 0 = .v (.pointer (some ⟨g, 0, none⟩)) ∧ tget s3.tm 1 = .v (.string nm) ∧ tget s3.tm 2 = .sl false 2 (ats.map attrRow) ∧ FBo s3.H g ⟨x.l, op1R nm x.l x.op, x.bad⟩) ?_ ?_
  · (try simp +decide (implicitDefEqProofs := false) only [go_sem, ↓stk_g, ↓stk_c, ↓reduceIte])
    refine stk_pure (refBlock_ok nm) fun v hv => ?_
    subst hv
    by_cases hb : isBlock nm = true
    · (try simp +decide (implicitDefEqProofs := false) only [go_sem, ↓stk_g, ↓stk_c, ↓reduceIte, hb])
      refine stk_call (close04_ok x hx h bP) fun v H' hv => ?_
      (try simp +decide (implicitDefEqProofs := false) only [go_sem, ↓stk_g, ↓stk_c, ↓reduceIte])
      have := hv.2
      rw [op1R, if_pos hb]
      exact this
    · (try simp +decide (implicitDefEqProofs := false) only [go_sem, ↓stk_g, ↓stk_c, ↓reduceIte, hb])
      rw [op1R, if_neg hb]
      exact h
  clear h
  rintro ⟨tm, H⟩ ⟨t0, t1, t2, h⟩
  dsimp only at t0 t1 t2 h
  have hx1 := hx.op1 nm
  have l1 := op1_len nm x.l x.op
  have hgo : startF nm ats x = (if isVoid nm = true then putF nm ats ByteArray.empty ⟨x.l, op2R nm x.l (op1R nm x.l x.op), x.bad⟩ else openF (putF nm ats ByteArray.empty ⟨x.l, op2R nm x.l (op1R nm x.l x.op), x.bad⟩)) := rfl
  rw [hgo]
  clear hgo
  generalize op1R nm x.l x.op = op at *
  rw [stk_seq]
  refine stk_cut (fun s3 => tget s3.tm 0 = .v (.pointer (some ⟨g, 0, none⟩)) ∧ tget s3.tm 1 = .v (.string nm) ∧ tget s3.tm 2 = .sl false 2 (ats.map attrRow) ∧ tget s3.tm 6 = .v (.int .i64 (innerR x.l [bLi, bUl, bOl] op)) ∧ FBo s3.H g ⟨x.l, op, x.bad⟩) ?_ ?_
  · have hin := inner04_ok (W := W) ⟨x.l, op, x.bad⟩ hx1 true [bLi, bUl, bOl] (by simp)
    obtain ⟨X, Y, h⟩ := h
    (try simp +decide (implicitDefEqProofs := false) only [go_sem, ↓stk_g, ↓stk_c, ↓reduceIte, t0, t1, t2, lay, oneOr, List.take_succ_cons, List.take_zero, List.drop_succ_cons, List.drop_zero, List.nil_append, List.cons_append, Option.getD_some, Nat.reduceAdd, Nat.reduceLeDiff, List.append_nil, and_self, List.all_cons, List.all_nil])
    refine stk_callR [.pl (fbCells ⟨x.l, op, x.bad⟩), .sl true 1 (strRows [bLi, bUl, bOl])] (FZs.cons h.view (FZs.cons (.refl _) FZs.nil)) hin (fun v hv => by subst hv; rfl) fun v hv => ?_
    subst hv
    (try simp +decide (implicitDefEqProofs := false) only [go_sem, ↓stk_g, ↓stk_c, ↓reduceIte, t0, t1, t2])
    exact ⟨X, Y, h⟩
  clear h t0 t1 t2
  rintro ⟨tm, H⟩ ⟨t0, t1, t2, t6, h⟩
  dsimp only at t0 t1 t2 t6 h
  have hx2 := hx1.op2 nm
  have l2 := op2_len nm x.l op
  have hle := innerR_le x.l [bLi, bUl, bOl] op
  have hli : liR nm x.l op = (decide (nm = bLi) && (decide (0 < innerR x.l [bLi, bUl, bOl] op) && decide (nameF x.l (op.reverse.getD (innerR x.l [bLi, bUl, bOl] op - 1) 0) = bLi))) := rfl
  have hop := op2R_of (nm := nm) (l := x.l) (op := op)
  dsimp only at hx2 l2
  rw [stk_seq]
  refine stk_cut (fun s3 => tget s3.tm 0 = .v (.pointer (some ⟨g, 0, none⟩)) ∧ tget s3.tm 1 = .v (.string nm) ∧ tget s3.tm 2 = .sl false 2 (ats.map attrRow) ∧ FBo s3.H g ⟨x.l, op2R nm x.l op, x.bad⟩) ?_ ?_
  · generalize hk : innerR x.l [bLi, bUl, bOl] op = k at hle hli hop t6
    by_cases e1 : nm = bLi
    · by_cases e2 : 0 < k
      · obtain ⟨X, Y, h⟩ := h
        obtain ⟨m, hm⟩ : ∃ m, k = m + 1 := ⟨k - 1, by omega⟩
        have hn0 : op ≠ [] := fun e => by rw [e] at hle; simp at hle; omega
        obtain ⟨gy, rg, rfl, hgy, hrl, hrt⟩ := h.ry.some (fun e => by have := congrArg List.length e; simp at this; exact hn0 this)
        have hg := h.here
        have hlen : (op.reverse.map natRow).length = op.length := by simp
        rw [hlen] at hrl hrt hg h
        have ho : op.reverse.getD m 0 ∈ op := by
          rw [List.getD_eq_getElem?_getD, List.getElem?_eq_getElem (by simp; omega)]
          exact List.mem_reverse.1 (List.getElem_mem _)
        have hol := hx1.inn _ ho
        dsimp only at hol
        obtain ⟨gx, rfl, hgx⟩ := h.rx.some (fun e => by have := congrArg List.length e; simp at this; rw [this] at hol; simp at hol)
        have hlx : (x.l.map flRow).length = x.l.length := by simp
        rw [hlx] at hg h
        have hw : IntKind.i64.wrap ((k : Int) - 1) = (m : Int) := wrap_of (by omega) (by omega) (by omega)
        have hgt : rg.getD m [] = [.v (.int .i64 ((op.reverse.getD m 0 : Nat) : Int))] := by
          have : rg.getD m [] = (op.reverse.map natRow).getD m [] := by
            rw [hrt]; simp only [List.getD_eq_getElem?_getD]; rw [List.getElem?_take_of_lt (by omega)]
          rw [this, natRows_get (by simp; omega), natRow]
        obtain ⟨a, t, u, hfl⟩ := flName (l := x.l) hol
        rw [hm, Nat.add_sub_cancel] at hli
        generalize op.reverse.getD m 0 = o at *
        have d2 : decide (0 < (k : Int)) = true := decide_eq_true (by omega)
        have g1 : (m : Int) < (op.length : Int) := by omega
        have g2 : m < op.length := by omega
        have g3 : (o : Int) < (x.l.length : Int) := by omega
        have g4 : m < rg.length := by omega
        have g5 : o < (x.l.map flRow).length := by omega
        subst e1
        by_cases e3 : nameF x.l o = bLi
        · have d3 : decide (nameF x.l o = ⟨#[108, 105]⟩) = true := decide_eq_true e3
          have d1 : decide ((bLi : Str) = bLi) = true := decide_eq_true rfl
          have hl1 : liR bLi x.l op = true := by rw [hli, decide_eq_true e3, decide_eq_true (by omega : 0 < m + 1)]; simp
          rw [hop true hl1, if_pos rfl]
          (try simp +decide (implicitDefEqProofs := false) only [go_sem, ↓stk_g, ↓stk_c, ↓reduceIte, t0, t1, t2, t6, d2, d3, hw, hg, hgx, hgy, hgt, hfl, g1, g2, g3, g4, g5, hol, lay, oneOr, List.take_succ_cons, List.take_zero, List.drop_succ_cons, List.drop_zero, List.nil_append, List.cons_append, Option.getD_some, Nat.reduceAdd, Nat.reduceLeDiff, List.append_nil, and_self, List.all_cons, List.all_nil])
          have hc : (cutR op k).reverse.map natRow = (op.reverse.map natRow).take m := by rw [cutR_rev (by omega), List.map_take, show k - 1 = m by omega]
          exact ⟨by omega, .bs gx 5 x.l.length, .bs gy 1 m, FBH.set (x' := ⟨x.l, cutR op k, x.bad⟩) ⟨_, hg⟩ h.rx (by rw [hc]; exact RowP.cut hgy (by rw [hlen]; exact hrl) (by rw [hlen]; exact hrt) (by rw [hlen]; omega))⟩
        · have d3 : decide (nameF x.l o = ⟨#[108, 105]⟩) = false := decide_eq_false e3
          have hl1 : liR bLi x.l op = false := by rw [hli, decide_eq_false e3]; simp
          rw [hop false hl1, if_neg (by simp)]
          (try simp +decide (implicitDefEqProofs := false) only [go_sem, ↓stk_g, ↓stk_c, ↓reduceIte, t0, t1, t2, t6, d2, d3, hw, hg, hgx, hgy, hgt, hfl, g1, g2, g3, g4, g5, hol, lay, oneOr, List.take_succ_cons, List.take_zero, List.drop_succ_cons, List.drop_zero, List.nil_append, List.cons_append, Option.getD_some, Nat.reduceAdd, Nat.reduceLeDiff, List.append_nil, and_self, List.all_cons, List.all_nil])
          exact ⟨_, _, h⟩
      · have d2 : decide (0 < (k : Int)) = false := decide_eq_false (by omega)
        have hl1 : liR nm x.l op = false := by rw [hli, decide_eq_false e2]; simp
        rw [hop false hl1, if_neg (by simp)]
        subst e1
        (try simp +decide (implicitDefEqProofs := false) only [go_sem, ↓stk_g, ↓stk_c, ↓reduceIte, t0, t1, t2, t6, d2])
        exact h
    · have d1 : decide (nm = ⟨#[108, 105]⟩) = false := decide_eq_false e1
      have hl1 : liR nm x.l op = false := by rw [hli, decide_eq_false e1]; simp
      rw [hop false hl1, if_neg (by simp)]
      (try simp +decide (implicitDefEqProofs := false) only [go_sem, ↓stk_g, ↓stk_c, ↓reduceIte, t0, t1, t2, t6, d1])
      exact h
  clear h t0 t1 t2 t6 hli hop hle hx1
  rintro ⟨tm, H⟩ ⟨t0, t1, t2, h⟩
  dsimp only at t0 t1 t2 h
  generalize op2R nm x.l op = op at *
  (try simp +decide (implicitDefEqProofs := false) only [go_sem, ↓stk_g, ↓stk_c, ↓reduceIte, t0, t1, t2, lay, oneOr, List.take_succ_cons, List.take_zero, List.drop_succ_cons, List.drop_zero, List.nil_append, List.cons_append, Option.getD_some, Nat.reduceAdd, Nat.reduceLeDiff, List.append_nil, and_self, List.all_cons, List.all_nil])
  refine stk_call (put04_ok ⟨x.l, op, x.bad⟩ hx2 h nm ByteArray.empty ats) fun v H' hv => ?_
  have hpl : (putF nm ats ByteArray.empty ⟨x.l, op, x.bad⟩).l.length = x.l.length + 1 := by simp [putF]
  have hpo : (putF nm ats ByteArray.empty ⟨x.l, op, x.bad⟩).op = op := rfl
  generalize putF nm ats ByteArray.empty ⟨x.l, op, x.bad⟩ = y at *
  obtain ⟨X, Y, h⟩ := hv
  (try simp +decide (implicitDefEqProofs := false) only [go_sem, ↓stk_g, ↓stk_c, ↓reduceIte, t0, t1, t2, lay, oneOr, List.take_succ_cons, List.take_zero, List.drop_succ_cons, List.drop_zero, List.nil_append, List.cons_append, Option.getD_some, Nat.reduceAdd, Nat.reduceLeDiff, List.append_nil, and_self, List.all_cons, List.all_nil])
  refine stk_pure (refVoid_ok nm) fun v hv => ?_
  subst hv
  cases hv : isVoid nm
  · have hg := h.here
    obtain ⟨gx, rfl, hgx⟩ := h.rx.some (fun e => by have := congrArg List.length e; simp at this; rw [this] at hpl; simp at hpl)
    have hlx : (y.l.map flRow).length = x.l.length + 1 := by simp [hpl]
    have hw : IntKind.i64.wrap ((x.l.length : Int) + 1 - 1) = (x.l.length : Int) := wrap_of (by omega) (by omega) (by omega)
    rw [hlx] at hg h
    have hopen : openF y = ⟨y.l, x.l.length :: op, y.bad || decide (64 < op.length + 1)⟩ := by unfold openF; rw [hpl, hpo]; rfl
    rw [if_neg (by simp), hopen]
    have hryl : (y.op.reverse.map natRow).length = op.length := by simp [hpo]
    (try simp +decide (implicitDefEqProofs := false) only [go_sem, ↓stk_g, ↓stk_c, ↓reduceIte, t0, t1, t2, hg, hw, lay, oneOr, List.take_succ_cons, List.take_zero, List.drop_succ_cons, List.drop_zero, List.nil_append, List.cons_append, Option.getD_some, Nat.reduceAdd, Nat.reduceLeDiff, List.append_nil, and_self, List.all_cons, List.all_nil])
    refine stk_appP (rows := y.op.reverse.map natRow) h.ry (by rfl) (by simp) (by rw [hryl]; simp only [List.length_cons, List.length_nil]; omega) fun gy H2 hgy hrest => ?_
    rw [hryl]
    have hg2 : H2 g = _ := hrest _ _ hg h.ay
    have hrx : RowO H2 tF 5 (.bs gx 5 (x.l.length + 1)) (y.l.map flRow) := h.rx.kept fun c o hc hb => hrest c o hc fun e => h.axy c e hb
    have hrr : y.op.reverse.map natRow ++ [[.v (.int .i64 (x.l.length : Int))]] = (x.l.length :: op).reverse.map natRow := by simp [hpo, natRow]
    rw [hrr] at hgy
    have hry : RowP H2 tI 1 (.bs gy 1 (op.length + 1)) ((x.l.length :: op).reverse.map natRow) := .bs hgy (by simp) (by rw [List.take_of_length_le (by simp)])
    by_cases hbig : 64 < op.length + 1
    · have g1 : (64 : Int) < (op.length : Int) + 1 := by omega
      (try simp +decide (implicitDefEqProofs := false) only [go_sem, ↓stk_g, ↓stk_c, ↓reduceIte, t0, t1, t2, hg2, hp_self, hp_hp, g1, Int.natCast_add, Int.cast_ofNat_Int, lay, oneOr, List.take_succ_cons, List.take_zero, List.drop_succ_cons, List.drop_zero, List.nil_append, List.cons_append, Option.getD_some, Nat.reduceAdd, Nat.reduceLeDiff, List.append_nil, and_self, List.all_cons, List.all_nil])
      have := FBH.set (x' := ⟨y.l, x.l.length :: op, y.bad || decide (64 < op.length + 1)⟩) ⟨_, hg2⟩ hrx hry
      rw [decide_eq_true hbig, Bool.or_true] at this ⊢
      exact ⟨.inl rfl, _, .tup [], Sub.refl _, .refl _, _, _, this⟩
    · have g1 : ¬ (64 : Int) < (op.length : Int) + 1 := by omega
      (try simp +decide (implicitDefEqProofs := false) only [go_sem, ↓stk_g, ↓stk_c, ↓reduceIte, t0, t1, t2, hg2, hp_self, hp_hp, g1, Int.natCast_add, Int.cast_ofNat_Int, lay, oneOr, List.take_succ_cons, List.take_zero, List.drop_succ_cons, List.drop_zero, List.nil_append, List.cons_append, Option.getD_some, Nat.reduceAdd, Nat.reduceLeDiff, List.append_nil, and_self, List.all_cons, List.all_nil])
      have := FBH.set (x' := ⟨y.l, x.l.length :: op, y.bad || decide (64 < op.length + 1)⟩) ⟨_, hg2⟩ hrx hry
      rw [decide_eq_false hbig, Bool.or_false] at this ⊢
      exact ⟨.inl rfl, _, .tup [], Sub.refl _, .refl _, _, _, this⟩
  · (try simp +decide (implicitDefEqProofs := false) only [go_sem, ↓stk_g, ↓stk_c, ↓reduceIte, t0, t1, t2])
    refine ⟨.inl rfl, _, .tup [], Sub.refl _, .refl _, X, Y, ?_⟩
    exact h
end Go.Proofs.Ytidicfdcjoggpaa.M
