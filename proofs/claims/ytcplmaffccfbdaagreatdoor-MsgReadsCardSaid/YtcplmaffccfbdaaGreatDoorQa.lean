/-
  Messages in the abstract machine's words, and which may be: walked.
-/
import Derived.Test.YtcplmaffccfbdaaGreatDoorPback
import Derived.Test.YtcplmaffccfbdaaGreatDoorPkWalk
namespace Go.Proofs.YtcplmaffccfbdaaGreatDoor.M
open Go.RowKit
attribute [local go_sem] stk_nil stk_skip stk_ops stk_seq stk_block stk_scope stk_exit stk_ret stk_code_exit stk_code_ret stk_ops_exit stk_ops_ret stk_endb stk_endb_exit stk_endb_ret stk_endl stk_endl_exit stk_endl_ret stk_ops_nil stk_q stk_niq niqA flip srcOf stk_bsl side val bside bval uside uval cside cval bndS bndV intA isInt lside lval fside fval faside faval iside ival sxside sxval sizeA slside slval llside llval lenside lenval lenA tupA mmside mmval nkside boolA isBool ev_t ev_c tget put_s put_n lkside lkval menval stk_mk Option.isSome_some isMapA mapA keyA FZ_rfl FZ_any retOf true_and and_true if_true if_false decide_true decide_false Bool.not_true Bool.not_false Nat.zero_add List.map_cons List.map_nil Int.toNat_natCast strRows_len intRows_len List.getD_cons_zero List.getD_cons_succ List.length_cons List.length_nil List.forall_mem_cons List.not_mem_nil false_implies implies_true Int.ofNat_zero Int.natCast_add Int.natCast_one Int.ofNat_one Int.natCast_zero isB isU Bool.false_eq_true beq_self_eq_true Bool.false_beq Bool.true_beq Int.natCast_nonneg undef strRows_take strRows_drop Int.toNat_zero List.drop_zero Bool.and_true oneOr List.all_cons List.all_nil AVal.one Value.oneCell' Bool.true_and List.take_length stk_st' stside stH hp_self hp_hp isnside isnval lay List.take_succ_cons List.take_zero List.drop_succ_cons List.nil_append List.cons_append Option.getD_some List.append_nil and_self
set_option linter.unusedVariables false
set_option linter.unusedSimpArgs false
/-- A call that may write, ahead of which what is owned is called less. -/
theorem stk_callW {P : Program} {W : World} {k : List Item} {Q : Exit → AState → Prop} {s : AState} {d : Option Nat} {f : FuncId} {xs : List Operand} {r : List AOper} {R : AVal → AHeap → Prop} (s1 : AState) (hw : Weak s s1) (h : ACalls P W f (xs.map (ev s1.tm)) s1.H R) (hk : ∀ v H', R v H' → stk P W (.ops r :: k) Q .normal ((⟨s1.tm, H'⟩ : AState).put d v)) : stk P W (.ops (⟨d, none, .e (.call f xs)⟩ :: r) :: k) Q .normal s :=
  ⟨s1, hw, ACalls.mono h hk⟩
structure Msg where
  kind : Int
  frm : Int
  dst : Int
  epoch : Int
  ids : List Str
  posts : List (Str × Str)
  pol : Pol
def postRow (p : Str × Str) : List AVal := [.v (.string p.1), .v (.string p.2)]
def postRows (l : List (Str × Str)) : List (List AVal) := l.map postRow
theorem postRows_len (l : List (Str × Str)) : (postRows l).length = l.length := by simp [postRows]
abbrev noPost : Str × Str := (ByteArray.empty, ByteArray.empty)
theorem postRows_get {l : List (Str × Str)} {i : Nat} (h : i < l.length) : (postRows l).getD i [] = [.v (.string (l.getD i noPost).1), .v (.string (l.getD i noPost).2)] := by simp [postRows, postRow, h]
theorem postRows_append (a b : List (Str × Str)) : postRows a ++ postRows b = postRows (a ++ b) := by simp [postRows]
theorem postGood (l : List (Str × Str)) : Good 2 (postRows l) := by
  intro r hr
  obtain ⟨x, _, rfl⟩ := List.mem_map.1 hr
  exact ⟨rfl, fun y hy => by simp [postRow] at hy; rcases hy with rfl | rfl <;> rfl⟩
def msgCells (m : Msg) : List AVal := [.v (.int .i64 m.kind), .v (.int .i64 m.frm), .v (.int .i64 m.dst), .v (.int .i64 m.epoch), .sl false 1 (strRows m.ids), .sl false 2 (postRows m.posts), .v (.int .i64 m.pol.epoch), .sl false 1 (strRows m.pol.elems), .sl false 1 (strRows m.pol.attrs), .sl false 1 (strRows m.pol.schemes), .sl false 1 (strRows m.pol.classes), .sl false 1 (strRows m.pol.props), .v (.int .i64 m.pol.depth), .v (.int .i64 m.pol.nodes), .v (.int .i64 m.pol.bytes)]
/-- a > b. -/
def gtS (a b : Str) : Bool := !(strLt a b || decide (a = b))
def stepS (last x : Str) : Bool := gtS x last && decide ((x.size : Int) ≤ 16)
def riseIds : Str → List Str → Bool
  | _, [] => true
  | last, x :: l => stepS last x && riseIds x l
def risePosts : Str → List (Str × Str) → Bool
  | _, [] => true
  | last, x :: l => (stepS last x.1 && decide ((x.2.size : Int) ≤ 2000)) && risePosts x.1 l
def rightM (m : Msg) : Bool :=
  if min m.frm m.dst < 0 ∨ 5 < max m.frm m.dst ∨ m.frm = m.dst ∨ m.epoch < 0 ∨ 1000000 < m.epoch then false
  else if (m.kind ≠ 1 ∧ 0 < m.ids.length) ∨ (m.kind ≠ 2 ∧ 0 < m.posts.length) ∨ (m.kind ≠ 3 ∧ m.pol ≠ pol0) then false
  else if m.kind = 1 then riseIds ByteArray.empty m.ids && decide (m.ids.length ≤ 64)
  else if m.kind = 2 then risePosts ByteArray.empty m.posts && (decide (m.posts.length ≤ 64) && decide (m.epoch = 0))
  else if m.kind = 3 then rightP m.pol && decide (m.epoch = 0)
  else decide (m.kind = 4)
structure MFits (m : Msg) : Prop where
  ids : m.ids.length ≤ 1000000
  posts : m.posts.length ≤ 1000000
  pol : Fits m.pol
def c_mrises : AFn := ⟨2, 13, [4],
  .seq (.ops [⟨(some 4), none, .q (.mv (.const (.bool false)))⟩])
  (.seq (.ops [⟨(some 5), none, .q (.mv (.tmp 1))⟩,
      ⟨(some 6), none, .q (.mv (.tmp 0))⟩,
      ⟨(some 7), none, .q (.bin .gtr .num (.tmp 5) (.tmp 6))⟩,
      ⟨(some 8), none, .q (.mv (.tmp 7))⟩,
      ⟨(some 9), (some (8, true)), .q (.mv (.tmp 1))⟩,
      ⟨(some 10), (some (8, true)), .q (.len true (.tmp 9))⟩,
      ⟨(some 11), (some (8, true)), .q (.bin .leq .num (.tmp 10) (.const (.int .i64 16)))⟩,
      ⟨(some 12), none, .q (.pick (.tmp 8) (.tmp 11) (.const (.bool false)))⟩,
      ⟨(some 4), none, .q (.mv (.tmp 12))⟩])
  (.ret)), []⟩
theorem k_mrises : compF Tryz.prog 21 = some c_mrises := by kernel_rfl
set_option maxHeartbeats 2000000 in
theorem mrises_ok {W : World} (last x : Str) : ACalls Tryz.prog W 21 [.v (.string last), .v (.string x)] AHeap.none fun v _ => v = .v (.bool (stepS last x)) := by
  refine fn_run follows k_mrises rfl ?_
  simp only [c_mrises, aretC_nil, List.zipIdx_cons, List.zipIdx_nil, List.map_cons, List.map_nil, Nat.zero_add]
  unfold stepS gtS
  cases h1 : strLt x last
  · cases h2 : decide (x = last)
    · (try simp +decide (implicitDefEqProofs := false) only [go_sem, ↓stk_g, ↓stk_c, ↓reduceIte, h1, h2, Bool.or_false, Bool.false_or])
      refine aret_pure (.inr rfl) ?_; simp +decide only [retOf, tget, if_true, if_false, ↓reduceIte, List.map_cons, List.map_nil]
      try simp
    · (try simp +decide (implicitDefEqProofs := false) only [go_sem, ↓stk_g, ↓stk_c, ↓reduceIte, h1, h2, Bool.or_false, Bool.false_or, Bool.or_true])
      refine aret_pure (.inr rfl) ?_; simp +decide only [retOf, tget, if_true, if_false, ↓reduceIte, List.map_cons, List.map_nil]
      try simp
  · (try simp +decide (implicitDefEqProofs := false) only [go_sem, ↓stk_g, ↓stk_c, ↓reduceIte, h1, Bool.true_or])
    refine aret_pure (.inr rfl) ?_; simp +decide only [retOf, tget, if_true, if_false, ↓reduceIte, List.map_cons, List.map_nil]
    try simp
def c_empty : AFn := ⟨1, 43, [2],
  .seq (.ops [⟨(some 1), none, .e (.box 25 (.tmp 0))⟩,
      ⟨(some 2), none, .q (.mv (.const (.bool false)))⟩])
  (.seq (.ops [⟨(some 3), none, .q (.fad 0 1 (.tmp 1))⟩,
      ⟨(some 4), none, .q (.ld false 1 (.tmp 3))⟩,
      ⟨(some 5), none, .q (.bin .eql .num (.tmp 4) (.const (.int .i64 0)))⟩,
      ⟨(some 6), none, .q (.mv (.tmp 5))⟩,
      ⟨(some 7), (some (6, true)), .q (.fad 1 1 (.tmp 1))⟩,
      ⟨(some 8), (some (6, true)), .q (.ld false 1 (.tmp 7))⟩,
      ⟨(some 9), (some (6, true)), .q (.len false (.tmp 8))⟩,
      ⟨(some 10), (some (6, true)), .q (.fad 2 1 (.tmp 1))⟩,
      ⟨(some 11), (some (6, true)), .q (.ld false 1 (.tmp 10))⟩,
      ⟨(some 12), (some (6, true)), .q (.len false (.tmp 11))⟩,
      ⟨(some 13), (some (6, true)), .q (.bin .add .num (.tmp 9) (.tmp 12))⟩,
      ⟨(some 14), (some (6, true)), .q (.fad 3 1 (.tmp 1))⟩,
      ⟨(some 15), (some (6, true)), .q (.ld false 1 (.tmp 14))⟩,
      ⟨(some 16), (some (6, true)), .q (.len false (.tmp 15))⟩,
      ⟨(some 17), (some (6, true)), .q (.bin .add .num (.tmp 13) (.tmp 16))⟩,
      ⟨(some 18), (some (6, true)), .q (.fad 4 1 (.tmp 1))⟩,
      ⟨(some 19), (some (6, true)), .q (.ld false 1 (.tmp 18))⟩,
      ⟨(some 20), (some (6, true)), .q (.len false (.tmp 19))⟩,
      ⟨(some 21), (some (6, true)), .q (.bin .add .num (.tmp 17) (.tmp 20))⟩,
      ⟨(some 22), (some (6, true)), .q (.fad 5 1 (.tmp 1))⟩,
      ⟨(some 23), (some (6, true)), .q (.ld false 1 (.tmp 22))⟩,
      ⟨(some 24), (some (6, true)), .q (.len false (.tmp 23))⟩,
      ⟨(some 25), (some (6, true)), .q (.bin .add .num (.tmp 21) (.tmp 24))⟩,
      ⟨(some 26), (some (6, true)), .q (.bin .eql .num (.tmp 25) (.const (.int .i64 0)))⟩,
      ⟨(some 27), none, .q (.pick (.tmp 6) (.tmp 26) (.const (.bool false)))⟩,
      ⟨(some 28), none, .q (.mv (.tmp 27))⟩,
      ⟨(some 29), (some (28, true)), .q (.fad 6 1 (.tmp 1))⟩,
      ⟨(some 30), (some (28, true)), .q (.ld false 1 (.tmp 29))⟩,
      ⟨(some 31), (some (28, true)), .q (.bin .eql .num (.tmp 30) (.const (.int .i64 0)))⟩,
      ⟨(some 32), none, .q (.pick (.tmp 28) (.tmp 31) (.const (.bool false)))⟩,
      ⟨(some 33), none, .q (.mv (.tmp 32))⟩,
      ⟨(some 34), (some (33, true)), .q (.fad 7 1 (.tmp 1))⟩,
      ⟨(some 35), (some (33, true)), .q (.ld false 1 (.tmp 34))⟩,
      ⟨(some 36), (some (33, true)), .q (.bin .eql .num (.tmp 35) (.const (.int .i64 0)))⟩,
      ⟨(some 37), none, .q (.pick (.tmp 33) (.tmp 36) (.const (.bool false)))⟩,
      ⟨(some 38), none, .q (.mv (.tmp 37))⟩,
      ⟨(some 39), (some (38, true)), .q (.fad 8 1 (.tmp 1))⟩,
      ⟨(some 40), (some (38, true)), .q (.ld false 1 (.tmp 39))⟩,
      ⟨(some 41), (some (38, true)), .q (.bin .eql .num (.tmp 40) (.const (.int .i64 0)))⟩,
      ⟨(some 42), none, .q (.pick (.tmp 38) (.tmp 41) (.const (.bool false)))⟩,
      ⟨(some 2), none, .q (.mv (.tmp 42))⟩])
  (.ret)), []⟩
theorem k_empty : compF Tryz.prog 20 = some c_empty := by kernel_rfl
set_option maxHeartbeats 4000000 in
theorem empty_ok {W : World} (p : Pol) (F : Lens9 p) : ACalls Tryz.prog W 20 [.agg (polCells p)] AHeap.none fun v _ => v = .v (.bool (decide (p = pol0))) := by
  have F1 := F.elems; have F2 := F.attrs; have F3 := F.schemes; have F4 := F.classes; have F5 := F.props
  refine fn_run follows k_empty rfl ?_
  simp only [c_empty, aretC_nil, List.zipIdx_cons, List.zipIdx_nil, List.map_cons, List.map_nil, Nat.zero_add]
  (try simp +decide (implicitDefEqProofs := false) only [go_sem, ↓stk_g, ↓stk_c, ↓reduceIte])
  rw [stk_box]
  refine ⟨by rfl, fun b1 h1 => ?_⟩
  have no : ∀ (h : p ≠ pol0), AVal.v (.bool false) = .v (.bool (decide (p = pol0))) := fun h => by rw [decide_eq_false h]
  by_cases e0 : p.epoch = 0
  case neg =>
    have d0 := decide_eq_false e0
    (try simp +decide (implicitDefEqProofs := false) only [go_sem, ↓stk_g, ↓stk_c, ↓reduceIte, polCells, d0])
    refine aret_pure (.inr rfl) ?_; simp +decide only [retOf, tget, if_true, if_false, ↓reduceIte, List.map_cons, List.map_nil]
    exact no fun h => e0 (by rw [h]; rfl)
  have d0 := decide_eq_true e0
  have w1 := wrap_in (n := (p.elems.length : Int) + (p.attrs.length : Int)) (by omega) (by omega)
  have w2 := wrap_in (n := (p.elems.length : Int) + (p.attrs.length : Int) + (p.schemes.length : Int)) (by omega) (by omega)
  have w3 := wrap_in (n := (p.elems.length : Int) + (p.attrs.length : Int) + (p.schemes.length : Int) + (p.classes.length : Int)) (by omega) (by omega)
  have w4 := wrap_in (n := (p.elems.length : Int) + (p.attrs.length : Int) + (p.schemes.length : Int) + (p.classes.length : Int) + (p.props.length : Int)) (by omega) (by omega)
  by_cases e1 : (p.elems.length : Int) + (p.attrs.length : Int) + (p.schemes.length : Int) + (p.classes.length : Int) + (p.props.length : Int) = 0
  case neg =>
    have d1 := decide_eq_false e1
    (try simp +decide (implicitDefEqProofs := false) only [go_sem, ↓stk_g, ↓stk_c, ↓reduceIte, polCells, d0, w1, w2, w3, w4, d1])
    refine aret_pure (.inr rfl) ?_; simp +decide only [retOf, tget, if_true, if_false, ↓reduceIte, List.map_cons, List.map_nil]
    exact no fun h => e1 (by rw [h]; rfl)
  have d1 := decide_eq_true e1
  by_cases e2 : p.depth = 0
  case neg =>
    have d2 := decide_eq_false e2
    (try simp +decide (implicitDefEqProofs := false) only [go_sem, ↓stk_g, ↓stk_c, ↓reduceIte, polCells, d0, w1, w2, w3, w4, d1, d2])
    refine aret_pure (.inr rfl) ?_; simp +decide only [retOf, tget, if_true, if_false, ↓reduceIte, List.map_cons, List.map_nil]
    exact no fun h => e2 (by rw [h]; rfl)
  have d2 := decide_eq_true e2
  by_cases e3 : p.nodes = 0
  case neg =>
    have d3 := decide_eq_false e3
    (try simp +decide (implicitDefEqProofs := false) only [go_sem, ↓stk_g, ↓stk_c, ↓reduceIte, polCells, d0, w1, w2, w3, w4, d1, d2, d3])
    refine aret_pure (.inr rfl) ?_; simp +decide only [retOf, tget, if_true, if_false, ↓reduceIte, List.map_cons, List.map_nil]
    exact no fun h => e3 (by rw [h]; rfl)
  have d3 := decide_eq_true e3
  by_cases e4 : p.bytes = 0
  case neg =>
    have d4 := decide_eq_false e4
    (try simp +decide (implicitDefEqProofs := false) only [go_sem, ↓stk_g, ↓stk_c, ↓reduceIte, polCells, d0, w1, w2, w3, w4, d1, d2, d3, d4])
    refine aret_pure (.inr rfl) ?_; simp +decide only [retOf, tget, if_true, if_false, ↓reduceIte, List.map_cons, List.map_nil]
    exact no fun h => e4 (by rw [h]; rfl)
  have d4 := decide_eq_true e4
  (try simp +decide (implicitDefEqProofs := false) only [go_sem, ↓stk_g, ↓stk_c, ↓reduceIte, polCells, d0, w1, w2, w3, w4, d1, d2, d3, d4])
  refine aret_pure (.inr rfl) ?_; simp +decide only [retOf, tget, if_true, if_false, ↓reduceIte, List.map_cons, List.map_nil]
  have l1 : p.elems = [] := List.length_eq_zero_iff.1 (by omega)
  have l2 : p.attrs = [] := List.length_eq_zero_iff.1 (by omega)
  have l3 : p.schemes = [] := List.length_eq_zero_iff.1 (by omega)
  have l4 : p.classes = [] := List.length_eq_zero_iff.1 (by omega)
  have l5 : p.props = [] := List.length_eq_zero_iff.1 (by omega)
  have : p = pol0 := Pol.ext2 ⟨e0, l1, l2, l3, l4, l5, e2, e3, e4⟩
  rw [decide_eq_true this]
theorem drop_cons {α : Type} {l : List α} {i : Nat} {d : α} (h : i < l.length) : l.drop i = l.getD i d :: l.drop (i + 1) := by
  rw [List.drop_eq_getElem_cons h]; simp [h]
def c_mRight : AFn := ⟨1, 136, [2],
  .seq (.ops [⟨(some 1), none, .e (.box 27 (.tmp 0))⟩,
      ⟨(some 2), none, .q (.mv (.const (.bool false)))⟩])
  (.seq (.seq (.ops [⟨(some 8), none, .q (.fad 1 1 (.tmp 1))⟩,
      ⟨(some 9), none, .q (.ld false 1 (.tmp 8))⟩,
      ⟨(some 10), none, .q (.fad 2 1 (.tmp 1))⟩,
      ⟨(some 11), none, .q (.ld false 1 (.tmp 10))⟩,
      ⟨(some 12), none, .q (.mm false (.tmp 9) (.tmp 11))⟩,
      ⟨(some 13), none, .q (.bin .lss .num (.tmp 12) (.const (.int .i64 0)))⟩,
      ⟨(some 14), none, .q (.mv (.tmp 13))⟩,
      ⟨(some 15), (some (14, false)), .q (.fad 1 1 (.tmp 1))⟩,
      ⟨(some 16), (some (14, false)), .q (.ld false 1 (.tmp 15))⟩,
      ⟨(some 17), (some (14, false)), .q (.fad 2 1 (.tmp 1))⟩,
      ⟨(some 18), (some (14, false)), .q (.ld false 1 (.tmp 17))⟩,
      ⟨(some 19), (some (14, false)), .q (.mm true (.tmp 16) (.tmp 18))⟩,
      ⟨(some 20), (some (14, false)), .q (.bin .gtr .num (.tmp 19) (.const (.int .i64 5)))⟩,
      ⟨(some 21), none, .q (.pick (.tmp 14) (.const (.bool true)) (.tmp 20))⟩,
      ⟨(some 22), none, .q (.mv (.tmp 21))⟩,
      ⟨(some 23), (some (22, false)), .q (.fad 1 1 (.tmp 1))⟩,
      ⟨(some 24), (some (22, false)), .q (.ld false 1 (.tmp 23))⟩,
      ⟨(some 25), (some (22, false)), .q (.fad 2 1 (.tmp 1))⟩,
      ⟨(some 26), (some (22, false)), .q (.ld false 1 (.tmp 25))⟩,
      ⟨(some 27), (some (22, false)), .q (.bin .eql .num (.tmp 24) (.tmp 26))⟩,
      ⟨(some 28), none, .q (.pick (.tmp 22) (.const (.bool true)) (.tmp 27))⟩,
      ⟨(some 29), none, .q (.mv (.tmp 28))⟩,
      ⟨(some 30), (some (29, false)), .q (.fad 3 1 (.tmp 1))⟩,
      ⟨(some 31), (some (29, false)), .q (.ld false 1 (.tmp 30))⟩,
      ⟨(some 32), (some (29, false)), .q (.bin .lss .num (.tmp 31) (.const (.int .i64 0)))⟩,
      ⟨(some 33), none, .q (.pick (.tmp 29) (.const (.bool true)) (.tmp 32))⟩,
      ⟨(some 34), none, .q (.mv (.tmp 33))⟩,
      ⟨(some 35), (some (34, false)), .q (.fad 3 1 (.tmp 1))⟩,
      ⟨(some 36), (some (34, false)), .q (.ld false 1 (.tmp 35))⟩,
      ⟨(some 37), (some (34, false)), .q (.bin .gtr .num (.tmp 36) (.const (.int .i64 1000000)))⟩,
      ⟨(some 38), none, .q (.pick (.tmp 34) (.const (.bool true)) (.tmp 37))⟩])
  (.cond (.tmp 38)
    (.seq (.ops [⟨(some 2), none, .q (.mv (.const (.bool false)))⟩])
    (.ret))
    (.skip)))
  (.seq (.seq (.ops [⟨(some 39), none, .q (.fad 0 1 (.tmp 1))⟩,
      ⟨(some 40), none, .q (.ld false 1 (.tmp 39))⟩,
      ⟨(some 41), none, .q (.bin .neq .num (.tmp 40) (.const (.int .i64 1)))⟩,
      ⟨(some 42), none, .q (.mv (.tmp 41))⟩,
      ⟨(some 43), (some (42, true)), .q (.fad 4 1 (.tmp 1))⟩,
      ⟨(some 44), (some (42, true)), .q (.ld false 1 (.tmp 43))⟩,
      ⟨(some 45), (some (42, true)), .q (.len false (.tmp 44))⟩,
      ⟨(some 46), (some (42, true)), .q (.bin .gtr .num (.tmp 45) (.const (.int .i64 0)))⟩,
      ⟨(some 47), none, .q (.pick (.tmp 42) (.tmp 46) (.const (.bool false)))⟩,
      ⟨(some 48), none, .q (.mv (.tmp 47))⟩,
      ⟨(some 49), (some (48, false)), .q (.fad 0 1 (.tmp 1))⟩,
      ⟨(some 50), (some (48, false)), .q (.ld false 1 (.tmp 49))⟩,
      ⟨(some 51), (some (48, false)), .q (.bin .neq .num (.tmp 50) (.const (.int .i64 2)))⟩,
      ⟨(some 52), (some (48, false)), .q (.mv (.tmp 51))⟩,
      ⟨(some 53), (some (52, true)), .q (.fad 5 1 (.tmp 1))⟩,
      ⟨(some 54), (some (52, true)), .q (.ld false 1 (.tmp 53))⟩,
      ⟨(some 55), (some (52, true)), .q (.len false (.tmp 54))⟩,
      ⟨(some 56), (some (52, true)), .q (.bin .gtr .num (.tmp 55) (.const (.int .i64 0)))⟩,
      ⟨(some 57), (some (48, false)), .q (.pick (.tmp 52) (.tmp 56) (.const (.bool false)))⟩,
      ⟨(some 58), none, .q (.pick (.tmp 48) (.const (.bool true)) (.tmp 57))⟩,
      ⟨(some 59), none, .q (.mv (.tmp 58))⟩,
      ⟨(some 60), (some (59, false)), .q (.fad 0 1 (.tmp 1))⟩,
      ⟨(some 61), (some (59, false)), .q (.ld false 1 (.tmp 60))⟩,
      ⟨(some 62), (some (59, false)), .q (.bin .neq .num (.tmp 61) (.const (.int .i64 3)))⟩,
      ⟨(some 63), (some (59, false)), .q (.mv (.tmp 62))⟩,
      ⟨(some 64), (some (63, true)), .q (.fad 6 9 (.tmp 1))⟩,
      ⟨(some 65), (some (63, true)), .q (.ld true 9 (.tmp 64))⟩,
      ⟨(some 66), (some (63, true)), .e (.call 20 [(.tmp 65)])⟩,
      ⟨(some 67), (some (63, true)), .q (.un .not (.tmp 66))⟩,
      ⟨(some 68), (some (59, false)), .q (.pick (.tmp 63) (.tmp 67) (.const (.bool false)))⟩,
      ⟨(some 69), none, .q (.pick (.tmp 59) (.const (.bool true)) (.tmp 68))⟩])
  (.cond (.tmp 69)
    (.seq (.ops [⟨(some 2), none, .q (.mv (.const (.bool false)))⟩])
    (.ret))
    (.skip)))
  (.seq (.ops [⟨(some 3), none, .q (.mv (.const (.string ByteArray.empty)))⟩])
  (.seq (.seq (.ops [⟨(some 70), none, .q (.fad 0 1 (.tmp 1))⟩,
      ⟨(some 71), none, .q (.ld false 1 (.tmp 70))⟩])
  (.block 0 (.seq (.ops [⟨(some 73), none, .q (.bin .eql .num (.tmp 71) (.const (.int .i64 1)))⟩,
        ⟨(some 72), none, .q (.mv (.tmp 73))⟩])
    (.cond (.tmp 72)
      (.seq (.seq (.ops [⟨(some 74), none, .q (.fad 4 1 (.tmp 1))⟩,
          ⟨(some 75), none, .q (.ld false 1 (.tmp 74))⟩,
          ⟨(some 76), none, .q (.len false (.tmp 75))⟩,
          ⟨(some 77), none, .q (.mv (.const (.int .i64 0)))⟩])
      (.block 1 (.loop (.seq (.ops [⟨(some 78), none, .q (.bin .lss .num (.tmp 77) (.tmp 76))⟩])
          (.seq (.cond (.tmp 78)
            (.skip)
            (.exit 1))
          (.seq (.block 2 (.seq (.ops [⟨(some 79), none, .q (.ixa 1 (.tmp 75) (.tmp 77))⟩,
                ⟨(some 80), none, .q (.ld false 1 (.tmp 79))⟩,
                ⟨(some 5), none, .q (.mv (.tmp 80))⟩])
            (.seq (.seq (.ops [⟨(some 81), none, .q (.mv (.tmp 3))⟩,
                ⟨(some 82), none, .q (.mv (.tmp 5))⟩,
                ⟨(some 83), none, .e (.call 21 [(.tmp 81), (.tmp 82)])⟩,
                ⟨(some 84), none, .q (.un .not (.tmp 83))⟩])
            (.cond (.tmp 84)
              (.seq (.ops [⟨(some 2), none, .q (.mv (.const (.bool false)))⟩])
              (.ret))
              (.skip)))
            (.ops [⟨(some 85), none, .q (.mv (.tmp 5))⟩,
                ⟨(some 3), none, .q (.mv (.tmp 85))⟩]))))
          (.ops [⟨(some 86), none, .q (.bin .add .num (.tmp 77) (.const (.int .i64 1)))⟩,
              ⟨(some 77), none, .q (.mv (.tmp 86))⟩])))))))
      (.seq (.ops [⟨(some 87), none, .q (.fad 4 1 (.tmp 1))⟩,
          ⟨(some 88), none, .q (.ld false 1 (.tmp 87))⟩,
          ⟨(some 89), none, .q (.len false (.tmp 88))⟩,
          ⟨(some 90), none, .q (.bin .leq .num (.tmp 89) (.const (.int .i64 64)))⟩,
          ⟨(some 2), none, .q (.mv (.tmp 90))⟩])
      (.ret)))
      (.seq (.ops [⟨(some 92), none, .q (.bin .eql .num (.tmp 71) (.const (.int .i64 2)))⟩,
          ⟨(some 91), none, .q (.mv (.tmp 92))⟩])
      (.cond (.tmp 91)
        (.seq (.seq (.ops [⟨(some 93), none, .q (.fad 5 1 (.tmp 1))⟩,
            ⟨(some 94), none, .q (.ld false 1 (.tmp 93))⟩,
            ⟨(some 95), none, .q (.len false (.tmp 94))⟩,
            ⟨(some 96), none, .q (.mv (.const (.int .i64 0)))⟩])
        (.block 3 (.loop (.seq (.ops [⟨(some 97), none, .q (.bin .lss .num (.tmp 96) (.tmp 95))⟩])
            (.seq (.cond (.tmp 97)
              (.skip)
              (.exit 3))
            (.seq (.block 4 (.seq (.ops [⟨(some 98), none, .q (.ixa 2 (.tmp 94) (.tmp 96))⟩,
                  ⟨(some 99), none, .q (.ld true 2 (.tmp 98))⟩,
                  ⟨(some 7), none, .e (.alloc 38 [(.string ByteArray.empty), (.string ByteArray.empty)])⟩,
                  ⟨none, none, .e (.st 2 (.tmp 7) (.tmp 99))⟩])
              (.seq (.seq (.ops [⟨(some 100), none, .q (.mv (.tmp 3))⟩,
                  ⟨(some 101), none, .q (.fad 0 1 (.tmp 7))⟩,
                  ⟨(some 102), none, .q (.ld false 1 (.tmp 101))⟩,
                  ⟨(some 103), none, .e (.call 21 [(.tmp 100), (.tmp 102)])⟩,
                  ⟨(some 104), none, .q (.un .not (.tmp 103))⟩,
                  ⟨(some 105), none, .q (.mv (.tmp 104))⟩,
                  ⟨(some 106), (some (105, false)), .q (.fad 1 1 (.tmp 7))⟩,
                  ⟨(some 107), (some (105, false)), .q (.ld false 1 (.tmp 106))⟩,
                  ⟨(some 108), (some (105, false)), .q (.len true (.tmp 107))⟩,
                  ⟨(some 109), (some (105, false)), .q (.bin .gtr .num (.tmp 108) (.const (.int .i64 2000)))⟩,
                  ⟨(some 110), none, .q (.pick (.tmp 105) (.const (.bool true)) (.tmp 109))⟩])
              (.cond (.tmp 110)
                (.seq (.ops [⟨(some 2), none, .q (.mv (.const (.bool false)))⟩])
                (.ret))
                (.skip)))
              (.ops [⟨(some 111), none, .q (.fad 0 1 (.tmp 7))⟩,
                  ⟨(some 112), none, .q (.ld false 1 (.tmp 111))⟩,
                  ⟨(some 3), none, .q (.mv (.tmp 112))⟩]))))
            (.ops [⟨(some 113), none, .q (.bin .add .num (.tmp 96) (.const (.int .i64 1)))⟩,
                ⟨(some 96), none, .q (.mv (.tmp 113))⟩])))))))
        (.seq (.ops [⟨(some 114), none, .q (.fad 5 1 (.tmp 1))⟩,
            ⟨(some 115), none, .q (.ld false 1 (.tmp 114))⟩,
            ⟨(some 116), none, .q (.len false (.tmp 115))⟩,
            ⟨(some 117), none, .q (.bin .leq .num (.tmp 116) (.const (.int .i64 64)))⟩,
            ⟨(some 118), none, .q (.mv (.tmp 117))⟩,
            ⟨(some 119), (some (118, true)), .q (.fad 3 1 (.tmp 1))⟩,
            ⟨(some 120), (some (118, true)), .q (.ld false 1 (.tmp 119))⟩,
            ⟨(some 121), (some (118, true)), .q (.bin .eql .num (.tmp 120) (.const (.int .i64 0)))⟩,
            ⟨(some 122), none, .q (.pick (.tmp 118) (.tmp 121) (.const (.bool false)))⟩,
            ⟨(some 2), none, .q (.mv (.tmp 122))⟩])
        (.ret)))
        (.seq (.ops [⟨(some 124), none, .q (.bin .eql .num (.tmp 71) (.const (.int .i64 3)))⟩,
            ⟨(some 123), none, .q (.mv (.tmp 124))⟩])
        (.cond (.tmp 123)
          (.seq (.ops [⟨(some 125), none, .q (.fad 6 9 (.tmp 1))⟩,
              ⟨(some 126), none, .q (.ld true 9 (.tmp 125))⟩,
              ⟨(some 127), none, .e (.call 22 [(.tmp 126)])⟩,
              ⟨(some 128), none, .q (.mv (.tmp 127))⟩,
              ⟨(some 129), (some (128, true)), .q (.fad 3 1 (.tmp 1))⟩,
              ⟨(some 130), (some (128, true)), .q (.ld false 1 (.tmp 129))⟩,
              ⟨(some 131), (some (128, true)), .q (.bin .eql .num (.tmp 130) (.const (.int .i64 0)))⟩,
              ⟨(some 132), none, .q (.pick (.tmp 128) (.tmp 131) (.const (.bool false)))⟩,
              ⟨(some 2), none, .q (.mv (.tmp 132))⟩])
          (.ret))
          (.skip)))))))))
  (.seq (.ops [⟨(some 133), none, .q (.fad 0 1 (.tmp 1))⟩,
      ⟨(some 134), none, .q (.ld false 1 (.tmp 133))⟩,
      ⟨(some 135), none, .q (.bin .eql .num (.tmp 134) (.const (.int .i64 4)))⟩,
      ⟨(some 2), none, .q (.mv (.tmp 135))⟩])
  (.ret)))))), []⟩
theorem k_mRight : compF Tryz.prog 9 = some c_mRight := by kernel_rfl
set_option maxHeartbeats 16000000 in
theorem mright_ok {W : World} (L : Laid W) (m : Msg) (F : MFits m) : ACalls Tryz.prog W 9 [.agg (msgCells m)] AHeap.none fun v _ => v = .v (.bool (rightM m)) := by
  have F1 := F.ids
  have F2 := F.posts
  have F3 := F.pol.lens
  refine fn_run follows k_mRight rfl ?_
  simp only [c_mRight, aretC_nil, List.zipIdx_cons, List.zipIdx_nil, List.map_cons, List.map_nil, Nat.zero_add]
  (try simp +decide (implicitDefEqProofs := false) only [go_sem, ↓stk_g, ↓stk_c, ↓reduceIte])
  rw [stk_box]
  refine ⟨by rfl, fun b1 h1 => ?_⟩
  unfold rightM
  by_cases c1 : min m.frm m.dst < 0
  case pos =>
    have d1 : decide (min m.frm m.dst < 0) = true := decide_eq_true c1
    rw [if_pos (Or.inl c1)]
    (try simp +decide (implicitDefEqProofs := false) only [go_sem, ↓stk_g, ↓stk_c, ↓reduceIte, msgCells, d1])
    refine aret_pure (.inr rfl) ?_; simp +decide only [retOf, tget, if_true, if_false, ↓reduceIte, List.map_cons, List.map_nil]
  have d1 : decide (min m.frm m.dst < 0) = false := decide_eq_false c1
  by_cases c2 : 5 < max m.frm m.dst
  case pos =>
    have d2 : decide (5 < max m.frm m.dst) = true := decide_eq_true c2
    rw [if_pos (Or.inr (Or.inl c2))]
    (try simp +decide (implicitDefEqProofs := false) only [go_sem, ↓stk_g, ↓stk_c, ↓reduceIte, msgCells, d1, d2])
    refine aret_pure (.inr rfl) ?_; simp +decide only [retOf, tget, if_true, if_false, ↓reduceIte, List.map_cons, List.map_nil]
  have d2 : decide (5 < max m.frm m.dst) = false := decide_eq_false c2
  by_cases c3 : m.frm = m.dst
  case pos =>
    have d3 : decide (m.frm = m.dst) = true := decide_eq_true c3
    rw [if_pos (Or.inr (Or.inr (Or.inl c3)))]
    (try simp +decide (implicitDefEqProofs := false) only [go_sem, ↓stk_g, ↓stk_c, ↓reduceIte, msgCells, d1, d2, d3])
    refine aret_pure (.inr rfl) ?_; simp +decide only [retOf, tget, if_true, if_false, ↓reduceIte, List.map_cons, List.map_nil]
  have d3 : decide (m.frm = m.dst) = false := decide_eq_false c3
  by_cases c4 : m.epoch < 0
  case pos =>
    have d4 : decide (m.epoch < 0) = true := decide_eq_true c4
    rw [if_pos (Or.inr (Or.inr (Or.inr (Or.inl c4))))]
    (try simp +decide (implicitDefEqProofs := false) only [go_sem, ↓stk_g, ↓stk_c, ↓reduceIte, msgCells, d1, d2, d3, d4])
    refine aret_pure (.inr rfl) ?_; simp +decide only [retOf, tget, if_true, if_false, ↓reduceIte, List.map_cons, List.map_nil]
  have d4 : decide (m.epoch < 0) = false := decide_eq_false c4
  by_cases c5 : 1000000 < m.epoch
  case pos =>
    have d5 : decide (1000000 < m.epoch) = true := decide_eq_true c5
    rw [if_pos (Or.inr (Or.inr (Or.inr (Or.inr (c5)))))]
    (try simp +decide (implicitDefEqProofs := false) only [go_sem, ↓stk_g, ↓stk_c, ↓reduceIte, msgCells, d1, d2, d3, d4, d5])
    refine aret_pure (.inr rfl) ?_; simp +decide only [retOf, tget, if_true, if_false, ↓reduceIte, List.map_cons, List.map_nil]
  have d5 : decide (1000000 < m.epoch) = false := decide_eq_false c5
  rw [if_neg (by rintro (h | h | h | h | h) <;> contradiction)]
  by_cases hk1 : m.kind = 1
  case pos =>
    have hk := hk1
    have k1 : decide (m.kind = 1) = true := by rw [hk]; rfl
    have n1 : decide (m.kind ≠ 1) = false := by rw [hk]; rfl
    have k2 : decide (m.kind = 2) = false := by rw [hk]; rfl
    have n2 : decide (m.kind ≠ 2) = true := by rw [hk]; rfl
    have k3 : decide (m.kind = 3) = false := by rw [hk]; rfl
    have n3 : decide (m.kind ≠ 3) = true := by rw [hk]; rfl
    have k4 : decide (m.kind = 4) = false := by rw [hk]; rfl
    have n4 : decide (m.kind ≠ 4) = true := by rw [hk]; rfl
    by_cases a2 : 0 < m.posts.length
    case pos =>
      have i2 : decide ((0 : Int) < (m.posts.length : Int)) = true := decide_eq_true (by omega)
      rw [if_pos (.inr (.inl ⟨(by rw [hk]; decide), a2⟩))]
      (try simp +decide (implicitDefEqProofs := false) only [go_sem, ↓stk_g, ↓stk_c, ↓reduceIte, msgCells, d1, d2, d3, d4, d5, k1, n1, k2, n2, k3, n3, k4, n4, i2, postRows_len])
      refine aret_pure (.inr rfl) ?_; simp +decide only [retOf, tget, if_true, if_false, ↓reduceIte, List.map_cons, List.map_nil]
    have i2 : decide ((0 : Int) < (m.posts.length : Int)) = false := decide_eq_false (by omega)
    (try simp +decide (implicitDefEqProofs := false) only [go_sem, ↓stk_g, ↓stk_c, ↓reduceIte, msgCells, d1, d2, d3, d4, d5, k1, n1, k2, n2, k3, n3, k4, n4, i2, postRows_len])
    refine stk_pureW ⟨[(65, .agg (polCells m.pol)), (63, .v (.bool true)), (59, .v (.bool false)), (1, .pl (msgCells m))], AHeap.none⟩ (Weak.list _ (Sub.none _) ?_) (empty_ok m.pol F3) fun v hv => ?_
    · (try simp +decide (implicitDefEqProofs := false) only [go_sem, ↓stk_g, ↓stk_c, ↓reduceIte, polCells, FZ_rfl])
      exact FZ.cellsR (hp_self _ _ _) rfl
    subst hv
    by_cases a3 : m.pol = pol0
    case neg =>
      rw [if_pos (.inr (.inr ⟨(by rw [hk]; decide), a3⟩)), decide_eq_false a3]
      (try simp +decide (implicitDefEqProofs := false) only [go_sem, ↓stk_g, ↓stk_c, ↓reduceIte])
      refine aret_pure (.inr rfl) ?_; simp +decide only [retOf, tget, if_true, if_false, ↓reduceIte, List.map_cons, List.map_nil]
    rw [decide_eq_true a3]
    rw [if_neg (fun h => h.elim (fun h => h.1 hk) (fun h => h.elim (fun h => a2 h.2) (fun h => h.2 a3)))]
    rw [if_pos hk]
    (try simp +decide (implicitDefEqProofs := false) only [go_sem, ↓stk_g, ↓stk_c, ↓reduceIte, msgCells, d1, d2, d3, d4, d5, k1, n1, k2, n2, k3, n3, k4, n4, i2])
    refine stk_up (α := Str) m.ids.length (fun i a => ⟨[(77, .v (.int .i64 i)), (76, .v (.int .i64 m.ids.length)), (75, .sl false 1 (strRows m.ids)), (3, .v (.string a)), (1, .pl (msgCells m))], AHeap.none⟩) (fun i a => riseIds ByteArray.empty m.ids = riseIds a (m.ids.drop i)) ByteArray.empty (Weak.list _ (Sub.refl _) ?_) (by rw [List.drop_zero]) ?_
    · (try simp +decide (implicitDefEqProofs := false) only [go_sem, ↓stk_g, ↓stk_c, ↓reduceIte])
      first | done | exact FZ.refl _ | exact ⟨FZ.refl _, FZ.refl _⟩
    rintro i a hi hJ
    by_cases hlt : i < m.ids.length
    · have g1 : (i : Int) < (m.ids.length : Int) := by omega
      have hw := wrap_in (n := (i : Int) + 1) (by omega) (by omega)
      have hg := strRows_get hlt
      rw [drop_cons (d := ByteArray.empty) hlt, riseIds] at hJ
      (try simp +decide (implicitDefEqProofs := false) only [go_sem, ↓stk_g, ↓stk_c, ↓reduceIte, g1, hlt, hg])
      refine stk_pure (mrises_ok a (m.ids.getD i ByteArray.empty)) fun v hv => ?_
      subst hv
      cases hs : stepS a (m.ids.getD i ByteArray.empty)
      · rw [hs] at hJ
        (try simp +decide (implicitDefEqProofs := false) only [go_sem, ↓stk_g, ↓stk_c, ↓reduceIte])
        refine aret_pure (.inr rfl) ?_; simp +decide only [retOf, tget, if_true, if_false, ↓reduceIte, List.map_cons, List.map_nil]
        rw [hJ]; rfl
      · rw [hs] at hJ
        (try simp +decide (implicitDefEqProofs := false) only [go_sem, ↓stk_g, ↓stk_c, ↓reduceIte, hw])
        first | exact ⟨by omega, _, Weak.list _ (Sub.refl _) (by (try simp +decide (implicitDefEqProofs := false) only [go_sem, ↓stk_g, ↓stk_c, ↓reduceIte])), hJ⟩ | exact ⟨_, Weak.list _ (Sub.refl _) (by (try simp +decide (implicitDefEqProofs := false) only [go_sem, ↓stk_g, ↓stk_c, ↓reduceIte])), hJ⟩
    · have g1 : ¬ (i : Int) < (m.ids.length : Int) := by omega
      rw [List.drop_eq_nil_of_le (by omega), riseIds] at hJ
      (try simp +decide (implicitDefEqProofs := false) only [go_sem, ↓stk_g, ↓stk_c, ↓reduceIte, g1, msgCells])
      refine aret_pure (.inr rfl) ?_; simp +decide only [retOf, tget, if_true, if_false, ↓reduceIte, List.map_cons, List.map_nil]
      rw [hJ, Bool.true_and]
      exact congrArg (fun b => AVal.v (.bool b)) (decide_eq_decide.2 (by omega))
  by_cases hk2 : m.kind = 2
  case pos =>
    have hk := hk2
    have k1 : decide (m.kind = 1) = false := by rw [hk]; rfl
    have n1 : decide (m.kind ≠ 1) = true := by rw [hk]; rfl
    have k2 : decide (m.kind = 2) = true := by rw [hk]; rfl
    have n2 : decide (m.kind ≠ 2) = false := by rw [hk]; rfl
    have k3 : decide (m.kind = 3) = false := by rw [hk]; rfl
    have n3 : decide (m.kind ≠ 3) = true := by rw [hk]; rfl
    have k4 : decide (m.kind = 4) = false := by rw [hk]; rfl
    have n4 : decide (m.kind ≠ 4) = true := by rw [hk]; rfl
    by_cases a1 : 0 < m.ids.length
    case pos =>
      have i1 : decide ((0 : Int) < (m.ids.length : Int)) = true := decide_eq_true (by omega)
      rw [if_pos (.inl ⟨(by rw [hk]; decide), a1⟩)]
      (try simp +decide (implicitDefEqProofs := false) only [go_sem, ↓stk_g, ↓stk_c, ↓reduceIte, msgCells, d1, d2, d3, d4, d5, k1, n1, k2, n2, k3, n3, k4, n4, i1])
      refine aret_pure (.inr rfl) ?_; simp +decide only [retOf, tget, if_true, if_false, ↓reduceIte, List.map_cons, List.map_nil]
    have i1 : decide ((0 : Int) < (m.ids.length : Int)) = false := decide_eq_false (by omega)
    (try simp +decide (implicitDefEqProofs := false) only [go_sem, ↓stk_g, ↓stk_c, ↓reduceIte, msgCells, d1, d2, d3, d4, d5, k1, n1, k2, n2, k3, n3, k4, n4, i1, postRows_len])
    refine stk_pureW ⟨[(65, .agg (polCells m.pol)), (63, .v (.bool true)), (59, .v (.bool false)), (1, .pl (msgCells m))], AHeap.none⟩ (Weak.list _ (Sub.none _) ?_) (empty_ok m.pol F3) fun v hv => ?_
    · (try simp +decide (implicitDefEqProofs := false) only [go_sem, ↓stk_g, ↓stk_c, ↓reduceIte, polCells, FZ_rfl])
      exact FZ.cellsR (hp_self _ _ _) rfl
    subst hv
    by_cases a3 : m.pol = pol0
    case neg =>
      rw [if_pos (.inr (.inr ⟨(by rw [hk]; decide), a3⟩)), decide_eq_false a3]
      (try simp +decide (implicitDefEqProofs := false) only [go_sem, ↓stk_g, ↓stk_c, ↓reduceIte])
      refine aret_pure (.inr rfl) ?_; simp +decide only [retOf, tget, if_true, if_false, ↓reduceIte, List.map_cons, List.map_nil]
    rw [decide_eq_true a3]
    rw [if_neg (fun h => h.elim (fun h => a1 h.2) (fun h => h.elim (fun h => h.1 hk) (fun h => h.2 a3)))]
    rw [if_neg (by rw [hk]; decide), if_pos hk]
    (try simp +decide (implicitDefEqProofs := false) only [go_sem, ↓stk_g, ↓stk_c, ↓reduceIte, msgCells, d1, d2, d3, d4, d5, k1, n1, k2, n2, k3, n3, k4, n4, i1, postRows_len])
    refine stk_up (α := Str) m.posts.length (fun i a => ⟨[(96, .v (.int .i64 i)), (95, .v (.int .i64 m.posts.length)), (94, .sl false 2 (postRows m.posts)), (3, .v (.string a)), (1, .pl (msgCells m))], AHeap.none⟩) (fun i a => risePosts ByteArray.empty m.posts = risePosts a (m.posts.drop i)) ByteArray.empty (Weak.list _ (Sub.refl _) ?_) (by rw [List.drop_zero]) ?_
    · (try simp +decide (implicitDefEqProofs := false) only [go_sem, ↓stk_g, ↓stk_c, ↓reduceIte])
      first | done | exact FZ.refl _ | exact ⟨FZ.refl _, FZ.refl _⟩
    rintro i a hi hJ
    by_cases hlt : i < m.posts.length
    · have g1 : (i : Int) < (m.posts.length : Int) := by omega
      have hw := wrap_in (n := (i : Int) + 1) (by omega) (by omega)
      have hg := postRows_get hlt
      rw [drop_cons (d := noPost) hlt, risePosts] at hJ
      generalize m.posts.getD i noPost = q at hg hJ
      (try simp +decide (implicitDefEqProofs := false) only [go_sem, ↓stk_g, ↓stk_c, ↓reduceIte, g1, hlt, hg, postRows_len])
      rw [stk_alloc]
      intro b2 h2
      (try simp +decide (implicitDefEqProofs := false) only [go_sem, ↓stk_g, ↓stk_c, ↓reduceIte])
      refine stk_pure (mrises_ok a q.1) fun v hv => ?_
      subst hv
      cases hs : stepS a q.1
      · rw [hs] at hJ
        (try simp +decide (implicitDefEqProofs := false) only [go_sem, ↓stk_g, ↓stk_c, ↓reduceIte])
        refine aret_pure (.inr rfl) ?_; simp +decide only [retOf, tget, if_true, if_false, ↓reduceIte, List.map_cons, List.map_nil]
        rw [hJ]; rfl
      rw [hs] at hJ
      by_cases hr : (2000 : Int) < (q.2.size : Int)
      · have d6 : decide ((2000 : Int) < (q.2.size : Int)) = true := decide_eq_true hr
        rw [decide_eq_false (by omega)] at hJ
        (try simp +decide (implicitDefEqProofs := false) only [go_sem, ↓stk_g, ↓stk_c, ↓reduceIte, d6])
        refine aret_pure (.inr rfl) ?_; simp +decide only [retOf, tget, if_true, if_false, ↓reduceIte, List.map_cons, List.map_nil]
        rw [hJ]; rfl
      · have d6 : decide ((2000 : Int) < (q.2.size : Int)) = false := decide_eq_false hr
        rw [decide_eq_true (by omega)] at hJ
        (try simp +decide (implicitDefEqProofs := false) only [go_sem, ↓stk_g, ↓stk_c, ↓reduceIte, d6, hw])
        first | exact ⟨by omega, _, Weak.list _ (Sub.none _) (by (try simp +decide (implicitDefEqProofs := false) only [go_sem, ↓stk_g, ↓stk_c, ↓reduceIte])), hJ⟩ | exact ⟨_, Weak.list _ (Sub.none _) (by (try simp +decide (implicitDefEqProofs := false) only [go_sem, ↓stk_g, ↓stk_c, ↓reduceIte])), hJ⟩
    · have g1 : ¬ (i : Int) < (m.posts.length : Int) := by omega
      rw [List.drop_eq_nil_of_le (by omega), risePosts] at hJ
      rw [hJ, Bool.true_and]
      by_cases h64 : m.posts.length ≤ 64
      · have d7 : decide ((m.posts.length : Int) ≤ 64) = true := decide_eq_true (by omega)
        rw [decide_eq_true h64]
        (try simp +decide (implicitDefEqProofs := false) only [go_sem, ↓stk_g, ↓stk_c, ↓reduceIte, g1, msgCells, postRows_len, d7])
        refine aret_pure (.inr rfl) ?_; simp +decide only [retOf, tget, if_true, if_false, ↓reduceIte, List.map_cons, List.map_nil]
        try rfl
      · have d7 : decide ((m.posts.length : Int) ≤ 64) = false := decide_eq_false (by omega)
        rw [decide_eq_false h64]
        (try simp +decide (implicitDefEqProofs := false) only [go_sem, ↓stk_g, ↓stk_c, ↓reduceIte, g1, msgCells, postRows_len, d7])
        refine aret_pure (.inr rfl) ?_; simp +decide only [retOf, tget, if_true, if_false, ↓reduceIte, List.map_cons, List.map_nil]
        try rfl
  by_cases hk3 : m.kind = 3
  case pos =>
    have hk := hk3
    have k1 : decide (m.kind = 1) = false := by rw [hk]; rfl
    have n1 : decide (m.kind ≠ 1) = true := by rw [hk]; rfl
    have k2 : decide (m.kind = 2) = false := by rw [hk]; rfl
    have n2 : decide (m.kind ≠ 2) = true := by rw [hk]; rfl
    have k3 : decide (m.kind = 3) = true := by rw [hk]; rfl
    have n3 : decide (m.kind ≠ 3) = false := by rw [hk]; rfl
    have k4 : decide (m.kind = 4) = false := by rw [hk]; rfl
    have n4 : decide (m.kind ≠ 4) = true := by rw [hk]; rfl
    by_cases a1 : 0 < m.ids.length
    case pos =>
      have i1 : decide ((0 : Int) < (m.ids.length : Int)) = true := decide_eq_true (by omega)
      rw [if_pos (.inl ⟨(by rw [hk]; decide), a1⟩)]
      (try simp +decide (implicitDefEqProofs := false) only [go_sem, ↓stk_g, ↓stk_c, ↓reduceIte, msgCells, d1, d2, d3, d4, d5, k1, n1, k2, n2, k3, n3, k4, n4, i1])
      refine aret_pure (.inr rfl) ?_; simp +decide only [retOf, tget, if_true, if_false, ↓reduceIte, List.map_cons, List.map_nil]
    have i1 : decide ((0 : Int) < (m.ids.length : Int)) = false := decide_eq_false (by omega)
    by_cases a2 : 0 < m.posts.length
    case pos =>
      have i2 : decide ((0 : Int) < (m.posts.length : Int)) = true := decide_eq_true (by omega)
      rw [if_pos (.inr (.inl ⟨(by rw [hk]; decide), a2⟩))]
      (try simp +decide (implicitDefEqProofs := false) only [go_sem, ↓stk_g, ↓stk_c, ↓reduceIte, msgCells, d1, d2, d3, d4, d5, k1, n1, k2, n2, k3, n3, k4, n4, i1, i2, postRows_len])
      refine aret_pure (.inr rfl) ?_; simp +decide only [retOf, tget, if_true, if_false, ↓reduceIte, List.map_cons, List.map_nil]
    have i2 : decide ((0 : Int) < (m.posts.length : Int)) = false := decide_eq_false (by omega)
    rw [if_neg (fun h => h.elim (fun h => a1 h.2) (fun h => h.elim (fun h => a2 h.2) (fun h => h.1 hk)))]
    rw [if_neg (by rw [hk]; decide), if_neg (by rw [hk]; decide), if_pos hk]
    (try simp +decide (implicitDefEqProofs := false) only [go_sem, ↓stk_g, ↓stk_c, ↓reduceIte, msgCells, d1, d2, d3, d4, d5, k1, n1, k2, n2, k3, n3, k4, n4, i1, i2, postRows_len])
    refine stk_pureW ⟨[(126, .agg (polCells m.pol)), (1, .pl (msgCells m))], AHeap.none⟩ (Weak.list _ (Sub.none _) ?_) (right_ok L m.pol F.pol) fun v hv => ?_
    · (try simp +decide (implicitDefEqProofs := false) only [go_sem, ↓stk_g, ↓stk_c, ↓reduceIte, polCells, FZ_rfl])
      exact FZ.cellsR (hp_self _ _ _) rfl
    subst hv
    cases hr : rightP m.pol
    · (try simp +decide (implicitDefEqProofs := false) only [go_sem, ↓stk_g, ↓stk_c, ↓reduceIte])
      refine aret_pure (.inr rfl) ?_; simp +decide only [retOf, tget, if_true, if_false, ↓reduceIte, List.map_cons, List.map_nil]
      try rfl
    · (try simp +decide (implicitDefEqProofs := false) only [go_sem, ↓stk_g, ↓stk_c, ↓reduceIte, msgCells])
      refine aret_pure (.inr rfl) ?_; simp +decide only [retOf, tget, if_true, if_false, ↓reduceIte, List.map_cons, List.map_nil]
      try rfl
  have k1 : decide (m.kind = 1) = false := decide_eq_false hk1
  have n1 : decide (m.kind ≠ 1) = true := decide_eq_true hk1
  have k2 : decide (m.kind = 2) = false := decide_eq_false hk2
  have n2 : decide (m.kind ≠ 2) = true := decide_eq_true hk2
  have k3 : decide (m.kind = 3) = false := decide_eq_false hk3
  have n3 : decide (m.kind ≠ 3) = true := decide_eq_true hk3
  by_cases a1 : 0 < m.ids.length
  case pos =>
    have i1 : decide ((0 : Int) < (m.ids.length : Int)) = true := decide_eq_true (by omega)
    rw [if_pos (.inl ⟨hk1, a1⟩)]
    (try simp +decide (implicitDefEqProofs := false) only [go_sem, ↓stk_g, ↓stk_c, ↓reduceIte, msgCells, d1, d2, d3, d4, d5, k1, n1, k2, n2, k3, n3, i1])
    refine aret_pure (.inr rfl) ?_; simp +decide only [retOf, tget, if_true, if_false, ↓reduceIte, List.map_cons, List.map_nil]
  have i1 : decide ((0 : Int) < (m.ids.length : Int)) = false := decide_eq_false (by omega)
  by_cases a2 : 0 < m.posts.length
  case pos =>
    have i2 : decide ((0 : Int) < (m.posts.length : Int)) = true := decide_eq_true (by omega)
    rw [if_pos (.inr (.inl ⟨hk2, a2⟩))]
    (try simp +decide (implicitDefEqProofs := false) only [go_sem, ↓stk_g, ↓stk_c, ↓reduceIte, msgCells, d1, d2, d3, d4, d5, k1, n1, k2, n2, k3, n3, i1, i2, postRows_len])
    refine aret_pure (.inr rfl) ?_; simp +decide only [retOf, tget, if_true, if_false, ↓reduceIte, List.map_cons, List.map_nil]
  have i2 : decide ((0 : Int) < (m.posts.length : Int)) = false := decide_eq_false (by omega)
  (try simp +decide (implicitDefEqProofs := false) only [go_sem, ↓stk_g, ↓stk_c, ↓reduceIte, msgCells, d1, d2, d3, d4, d5, k1, n1, k2, n2, k3, n3, i1, i2, postRows_len])
  refine stk_pureW ⟨[(65, .agg (polCells m.pol)), (63, .v (.bool true)), (59, .v (.bool false)), (1, .pl (msgCells m))], AHeap.none⟩ (Weak.list _ (Sub.none _) ?_) (empty_ok m.pol F3) fun v hv => ?_
  · (try simp +decide (implicitDefEqProofs := false) only [go_sem, ↓stk_g, ↓stk_c, ↓reduceIte, polCells, FZ_rfl])
    exact FZ.cellsR (hp_self _ _ _) rfl
  subst hv
  by_cases a3 : m.pol = pol0
  case neg =>
    rw [if_pos (.inr (.inr ⟨hk3, a3⟩)), decide_eq_false a3]
    (try simp +decide (implicitDefEqProofs := false) only [go_sem, ↓stk_g, ↓stk_c, ↓reduceIte])
    refine aret_pure (.inr rfl) ?_; simp +decide only [retOf, tget, if_true, if_false, ↓reduceIte, List.map_cons, List.map_nil]
  rw [decide_eq_true a3]
  rw [if_neg (fun h => h.elim (fun h => a1 h.2) (fun h => h.elim (fun h => a2 h.2) (fun h => h.2 a3)))]
  rw [if_neg hk1, if_neg hk2, if_neg hk3]
  (try simp +decide (implicitDefEqProofs := false) only [go_sem, ↓stk_g, ↓stk_c, ↓reduceIte, msgCells, d1, d2, d3, d4, d5, k1, n1, k2, n2, k3, n3, i1, i2])
  refine aret_pure (.inr rfl) ?_; simp +decide only [retOf, tget, if_true, if_false, ↓reduceIte, List.map_cons, List.map_nil]
  try rfl
end Go.Proofs.YtcplmaffccfbdaaGreatDoor.M
