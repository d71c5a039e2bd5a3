/-
  The document's tree builder, what only reads: walked.
-/
import Derived.Test.YtidicfdcjoggpaaDbPure
import Derived.Test.YtidicfdcjoggpaaDomTextWalk
import Derived.Test.YtidicfdcjoggpaaDomFine
import Derived.Test.YtidicfdcjoggpaaMT
namespace Go.Proofs.Ytidicfdcjoggpaa.M
open Go.RowKit
attribute [local go_sem] stk_nil stk_skip stk_ops stk_seq stk_block stk_scope stk_exit stk_ret stk_code_exit stk_code_ret stk_ops_exit stk_ops_ret stk_endb stk_endb_exit stk_endb_ret stk_endl stk_endl_exit stk_endl_ret stk_ops_nil stk_q stk_niq niqA flip srcOf stk_bsl side val bside bval uside uval cside cval bndS bndV intA isInt lside lval fside fval faside faval iside ival sxside sxval sizeA slside slval llside llval lenside lenval lenA tupA mmside mmval nkside boolA isBool ev_t ev_c tget put_s put_n lkside lkval menval stk_mk Option.isSome_some isMapA mapA keyA FZ_rfl FZ_any retOf true_and and_true if_true if_false decide_true decide_false Bool.not_true Bool.not_false Nat.zero_add List.map_cons List.map_nil Int.toNat_natCast strRows_len intRows_len List.getD_cons_zero List.getD_cons_succ List.length_cons List.length_nil List.forall_mem_cons List.not_mem_nil false_implies implies_true Int.ofNat_zero Int.natCast_add Int.natCast_one Int.ofNat_one Int.natCast_zero isB isU Bool.false_eq_true beq_self_eq_true Bool.false_beq Bool.true_beq Int.natCast_nonneg undef strRows_take strRows_drop Int.toNat_zero List.drop_zero Bool.and_true oneOr List.all_cons List.all_nil AVal.one Value.oneCell' Bool.true_and List.take_length stk_st' stside stH hp_self hp_hp isnside isnval
set_option linter.unusedVariables false
set_option linter.unusedSimpArgs false
theorem wrap_of {n m : Int} (h : n = m) (h1 : -9223372036854775808 ≤ m) (h2 : m < 9223372036854775808) : IntKind.i64.wrap n = m := by
  subst h; rw [IntKind.wrap_i64]; omega
def natRow (o : Nat) : List AVal := [.v (.int .i64 (o : Int))]
def flRow (f : Fl) : List AVal := [.v (.string f.name), .sl false 2 (f.attrs.map attrRow), .v (.string f.text), .v (.slice none 0 0), .v (.int .i64 f.up)]
def fbCells (x : FB) : List AVal := [.sl false 5 (x.l.map flRow), .sl false 1 (x.op.reverse.map natRow), .v (.bool x.bad)]
/-- The places of a builder are places. -/
structure FW (x : FB) : Prop where
  inn : ∀ o ∈ x.op, o < x.l.length
  len : x.l.length ≤ 1000000
  deep : x.op.length ≤ 1000000
theorem flRows_get {l : List Fl} {i : Nat} (h : i < l.length) : (l.map flRow).getD i [] = flRow l[i] := by simp [h]
theorem natRows_get {l : List Nat} {i : Nat} (h : i < l.length) : (l.map natRow).getD i [] = natRow (l.getD i 0) := by simp [h]
def c_here : AFn := ⟨1, 21, [2],
  .seq (.ops [⟨(some 2), none, .q (.mv (.const (.int .i64 0)))⟩])
  (.seq (.seq (.ops [⟨(some 3), none, .q (.mv (.tmp 0))⟩,
      ⟨(some 4), none, .q (.nck (.tmp 3))⟩,
      ⟨(some 5), none, .q (.fad 1 1 (.tmp 4))⟩,
      ⟨(some 6), none, .q (.ld false 1 (.tmp 5))⟩,
      ⟨(some 7), none, .q (.len false (.tmp 6))⟩,
      ⟨(some 8), none, .q (.bin .eql .num (.tmp 7) (.const (.int .i64 0)))⟩])
  (.cond (.tmp 8)
    (.seq (.ops [⟨(some 2), none, .q (.mv (.const (.int .i64 (-1))))⟩])
    (.ret))
    (.skip)))
  (.seq (.ops [⟨(some 9), none, .q (.mv (.tmp 0))⟩,
      ⟨(some 10), none, .q (.nck (.tmp 9))⟩,
      ⟨(some 11), none, .q (.fad 1 1 (.tmp 10))⟩,
      ⟨(some 12), none, .q (.ld false 1 (.tmp 11))⟩,
      ⟨(some 13), none, .q (.mv (.tmp 0))⟩,
      ⟨(some 14), none, .q (.nck (.tmp 13))⟩,
      ⟨(some 15), none, .q (.fad 1 1 (.tmp 14))⟩,
      ⟨(some 16), none, .q (.ld false 1 (.tmp 15))⟩,
      ⟨(some 17), none, .q (.len false (.tmp 16))⟩,
      ⟨(some 18), none, .q (.bin .sub .num (.tmp 17) (.const (.int .i64 1)))⟩,
      ⟨(some 19), none, .q (.ixa 1 (.tmp 12) (.tmp 18))⟩,
      ⟨(some 20), none, .q (.ld false 1 (.tmp 19))⟩,
      ⟨(some 2), none, .q (.mv (.tmp 20))⟩])
  (.ret))), []⟩
theorem k_here : compF Try.prog 47 = some c_here := by kernel_rfl
set_option maxHeartbeats 2000000 in
theorem here_ok {W : World} (x : FB) (hx : FW x) : ACalls Try.prog W 47 [.pl (fbCells x)] AHeap.none fun v _ => v = .v (.int .i64 (hereR x.op)) := by
  have hd := hx.deep
  obtain ⟨l, op, bad⟩ := x
  dsimp only at hd
  refine fn_run follows k_here rfl ?_
  simp only [c_here, aretC_nil, List.zipIdx_cons, List.zipIdx_nil, List.map_cons, List.map_nil, Nat.zero_add]
  cases op with
  | nil =>
    (try simp +decide (implicitDefEqProofs := false) only [go_sem, ↓stk_g, ↓stk_c, ↓reduceIte, fbCells, List.reverse_nil, List.map_nil, List.length_nil, lay, oneOr, List.take_succ_cons, List.take_zero, List.drop_succ_cons, List.drop_zero, List.nil_append, List.cons_append, Option.getD_some, Nat.reduceAdd, Nat.reduceLeDiff, List.append_nil, and_self, List.all_cons, List.all_nil])
    refine aret_pure (.inr rfl) ?_; simp +decide only [retOf, tget, if_true, if_false, ↓reduceIte, List.map_cons, List.map_nil]
    rfl
  | cons o op =>
    have hlen : ((o :: op).reverse.map natRow).length = op.length + 1 := by simp
    have hg : ((o :: op).reverse.map natRow).getD op.length [] = [.v (.int .i64 (o : Int))] := by rw [natRows_get (by simp)]; simp [natRow]
    unfold fbCells
    dsimp only
    generalize (o :: op).reverse.map natRow = R at hlen hg
    rw [List.length_cons] at hd
    have w1 : IntKind.i64.wrap (((op.length + 1 : Nat) : Int) - 1) = (op.length : Int) := wrap_of (by omega) (by omega) (by omega)
    have w2 : IntKind.i64.wrap ((op.length : Int) + 1 - 1) = (op.length : Int) := wrap_of (by omega) (by omega) (by omega)
    have e1 : decide (((op.length : Int) + 1) = 0) = false := by simp; omega
    have g1 : (op.length : Int) < (op.length : Int) + 1 := by omega
    have g2 : op.length < op.length + 1 := by omega
    (try simp +decide (implicitDefEqProofs := false) only [go_sem, ↓stk_g, ↓stk_c, ↓reduceIte, hlen, w1, w2, e1, g1, g2, hg, Int.natCast_add, Int.cast_ofNat_Int, lay, oneOr, List.take_succ_cons, List.take_zero, List.drop_succ_cons, List.drop_zero, List.nil_append, List.cons_append, Option.getD_some, Nat.reduceAdd, Nat.reduceLeDiff, List.append_nil, and_self, List.all_cons, List.all_nil])
    refine aret_pure (.inr rfl) ?_; simp +decide only [retOf, tget, if_true, if_false, ↓reduceIte, List.map_cons, List.map_nil]
    rfl
def c_has04 : AFn := ⟨2, 18, [4],
  .seq (.ops [⟨(some 4), none, .q (.mv (.const (.bool false)))⟩])
  (.seq (.seq (.ops [⟨(some 5), none, .q (.mv (.const (.int .i64 0)))⟩])
  (.block 0 (.loop (.seq (.seq (.ops [⟨(some 6), none, .q (.mv (.tmp 5))⟩,
          ⟨(some 7), none, .q (.mv (.tmp 0))⟩,
          ⟨(some 8), none, .q (.len false (.tmp 7))⟩,
          ⟨(some 9), none, .q (.bin .lss .num (.tmp 6) (.tmp 8))⟩])
      (.cond (.tmp 9)
        (.skip)
        (.exit 0)))
      (.seq (.block 1 (.seq (.ops [⟨(some 12), none, .q (.mv (.tmp 0))⟩,
            ⟨(some 13), none, .q (.mv (.tmp 5))⟩,
            ⟨(some 14), none, .q (.ixa 1 (.tmp 12) (.tmp 13))⟩,
            ⟨(some 15), none, .q (.ld false 1 (.tmp 14))⟩,
            ⟨(some 16), none, .q (.mv (.tmp 1))⟩,
            ⟨(some 17), none, .q (.bin .eql .num (.tmp 15) (.tmp 16))⟩])
        (.cond (.tmp 17)
          (.seq (.ops [⟨(some 4), none, .q (.mv (.const (.bool true)))⟩])
          (.ret))
          (.skip))))
      (.ops [⟨(some 10), none, .q (.mv (.tmp 5))⟩,
          ⟨(some 11), none, .q (.bin .add .num (.tmp 10) (.const (.int .i64 1)))⟩,
          ⟨(some 5), none, .q (.mv (.tmp 11))⟩]))))))
  (.seq (.ops [⟨(some 4), none, .q (.mv (.const (.bool false)))⟩])
  (.ret))), []⟩
theorem k_has04 : compF Try.prog 34 = some c_has04 := by kernel_rfl
set_option maxHeartbeats 2000000 in
theorem has04_ok {W : World} (f : Bool) (names : List Str) (n : Str) (hl : names.length ≤ 1000000) : ACalls Try.prog W 34 [.sl f 1 (strRows names), .v (.string n)] AHeap.none fun v _ => v = .v (.bool (decide (n ∈ names))) := by
  refine fn_run follows k_has04 rfl ?_
  simp only [c_has04, aretC_nil, List.zipIdx_cons, List.zipIdx_nil, List.map_cons, List.map_nil, Nat.zero_add]
  (try simp +decide (implicitDefEqProofs := false) only [go_sem, ↓stk_g, ↓stk_c, ↓reduceIte])
  refine stk_up (α := Unit) names.length (fun i _ => ⟨[(5, .v (.int .i64 i)), (0, .sl f 1 (strRows names)), (1, .v (.string n))], AHeap.none⟩) (fun i _ => n ∉ names.take i) () (Weak.list _ (Sub.refl _) (by (try simp +decide (implicitDefEqProofs := false) only [go_sem, ↓stk_g, ↓stk_c, ↓reduceIte]))) (by simp) ?_
  rintro i ⟨⟩ hi hn
  by_cases hlt : i < names.length
  · have g1 : (i : Int) < (names.length : Int) := by omega
    have hg := strRows_get hlt
    have hw := wrap_in (n := i + 1) (by omega) (by omega)
    have hget : names.getD i ByteArray.empty = names[i] := by simp [hlt]
    by_cases he : names.getD i ByteArray.empty = n
    · have d : decide (names.getD i ByteArray.empty = n) = true := decide_eq_true he
      (try simp +decide (implicitDefEqProofs := false) only [go_sem, ↓stk_g, ↓stk_c, ↓reduceIte, g1, hg, d])
      refine aret_pure (.inr rfl) ?_; simp +decide only [retOf, tget, if_true, if_false, ↓reduceIte, List.map_cons, List.map_nil]
      rw [decide_eq_true]
      rw [← he, hget]; exact List.getElem_mem _
    · have d : decide (names.getD i ByteArray.empty = n) = false := decide_eq_false he
      (try simp +decide (implicitDefEqProofs := false) only [go_sem, ↓stk_g, ↓stk_c, ↓reduceIte, g1, hg, d, hw])
      refine ⟨by omega, (), Weak.list _ (Sub.refl _) (by (try simp +decide (implicitDefEqProofs := false) only [go_sem, ↓stk_g, ↓stk_c, ↓reduceIte])), ?_⟩
      rw [List.take_succ_eq_append_getElem hlt]
      intro h
      rcases List.mem_append.1 h with h | h
      · exact hn h
      · simp at h; exact he (by rw [hget, h])
  · have g1 : ¬ (i : Int) < (names.length : Int) := by omega
    (try simp +decide (implicitDefEqProofs := false) only [go_sem, ↓stk_g, ↓stk_c, ↓reduceIte, g1])
    refine aret_pure (.inr rfl) ?_; simp +decide only [retOf, tget, if_true, if_false, ↓reduceIte, List.map_cons, List.map_nil]
    rw [decide_eq_false]
    rwa [List.take_of_length_le (by omega)] at hn
theorem opRows_len (op : List Nat) : (op.reverse.map natRow).length = op.length := by simp
theorem opRows_get {op : List Nat} {m j : Nat} (h : m + j + 1 = op.length) : (op.reverse.map natRow).getD m [] = [.v (.int .i64 ((op.getD j 0 : Nat) : Int))] := by
  rw [natRows_get (by simp; omega), natRow]
  have : op.reverse.getD m 0 = op.getD j 0 := by
    simp only [List.getD_eq_getElem?_getD]
    rw [List.getElem?_reverse (by omega), show op.length - 1 - m = j by omega]
  rw [this]
theorem innerR_step (l : List Fl) (names : List Str) (op : List Nat) (j : Nat) (h : j < op.length) : innerR l names (op.drop j) = if nameF l (op.getD j 0) ∈ names then op.length - j else innerR l names (op.drop (j + 1)) := by
  rw [List.drop_eq_getElem_cons h, innerR]
  have e : op.getD j 0 = op[j] := by simp [h]
  rw [e]
  split
  · rw [List.length_drop]; omega
  · rfl
theorem flName {l : List Fl} {o : Nat} (h : o < l.length) : ∃ a t u, (l.map flRow).getD o [] = [.v (.string (nameF l o)), a, .v (.string t), .v (.slice none 0 0), .v (.int .i64 u)] :=
  ⟨_, _, _, by rw [flRows_get h, flRow]; simp [nameF, h]; exact ⟨rfl, rfl, rfl⟩⟩
def c_inner04 : AFn := ⟨2, 35, [4],
  .seq (.ops [⟨(some 4), none, .q (.mv (.const (.int .i64 0)))⟩])
  (.seq (.seq (.ops [⟨(some 6), none, .q (.mv (.tmp 0))⟩,
      ⟨(some 7), none, .q (.nck (.tmp 6))⟩,
      ⟨(some 8), none, .q (.fad 1 1 (.tmp 7))⟩,
      ⟨(some 9), none, .q (.ld false 1 (.tmp 8))⟩,
      ⟨(some 10), none, .q (.len false (.tmp 9))⟩,
      ⟨(some 11), none, .q (.bin .sub .num (.tmp 10) (.const (.int .i64 1)))⟩,
      ⟨(some 5), none, .q (.mv (.tmp 11))⟩])
  (.block 0 (.loop (.seq (.seq (.ops [⟨(some 12), none, .q (.mv (.tmp 5))⟩,
          ⟨(some 13), none, .q (.bin .geq .num (.tmp 12) (.const (.int .i64 0)))⟩])
      (.cond (.tmp 13)
        (.skip)
        (.exit 0)))
      (.seq (.block 1 (.seq (.ops [⟨(some 16), none, .q (.mv (.tmp 1))⟩,
            ⟨(some 17), none, .q (.mv (.tmp 0))⟩,
            ⟨(some 18), none, .q (.nck (.tmp 17))⟩,
            ⟨(some 19), none, .q (.fad 0 1 (.tmp 18))⟩,
            ⟨(some 20), none, .q (.ld false 1 (.tmp 19))⟩,
            ⟨(some 21), none, .q (.mv (.tmp 0))⟩,
            ⟨(some 22), none, .q (.nck (.tmp 21))⟩,
            ⟨(some 23), none, .q (.fad 1 1 (.tmp 22))⟩,
            ⟨(some 24), none, .q (.ld false 1 (.tmp 23))⟩,
            ⟨(some 25), none, .q (.mv (.tmp 5))⟩,
            ⟨(some 26), none, .q (.ixa 1 (.tmp 24) (.tmp 25))⟩,
            ⟨(some 27), none, .q (.ld false 1 (.tmp 26))⟩,
            ⟨(some 28), none, .q (.ixa 5 (.tmp 20) (.tmp 27))⟩,
            ⟨(some 29), none, .q (.fad 0 4 (.tmp 28))⟩,
            ⟨(some 30), none, .q (.fad 0 1 (.tmp 29))⟩,
            ⟨(some 31), none, .q (.ld false 1 (.tmp 30))⟩,
            ⟨(some 32), none, .e (.call 34 [(.tmp 16), (.tmp 31)])⟩])
        (.cond (.tmp 32)
          (.seq (.ops [⟨(some 33), none, .q (.mv (.tmp 5))⟩,
              ⟨(some 34), none, .q (.bin .add .num (.tmp 33) (.const (.int .i64 1)))⟩,
              ⟨(some 4), none, .q (.mv (.tmp 34))⟩])
          (.ret))
          (.skip))))
      (.ops [⟨(some 14), none, .q (.mv (.tmp 5))⟩,
          ⟨(some 15), none, .q (.bin .sub .num (.tmp 14) (.const (.int .i64 1)))⟩,
          ⟨(some 5), none, .q (.mv (.tmp 15))⟩]))))))
  (.seq (.ops [⟨(some 4), none, .q (.mv (.const (.int .i64 0)))⟩])
  (.ret))), []⟩
theorem k_inner04 : compF Try.prog 48 = some c_inner04 := by kernel_rfl
set_option maxHeartbeats 4000000 in
theorem inner04_ok {W : World} (x : FB) (hx : FW x) (f : Bool) (names : List Str) (hl : names.length ≤ 1000000) : ACalls Try.prog W 48 [.pl (fbCells x), .sl f 1 (strRows names)] AHeap.none fun v _ => v = .v (.int .i64 (innerR x.l names x.op)) := by
  obtain ⟨h0, h1, h2⟩ := hx
  obtain ⟨l, op, bad⟩ := x
  dsimp only at h0 h1 h2
  refine fn_run follows k_inner04 rfl ?_
  simp only [c_inner04, aretC_nil, List.zipIdx_cons, List.zipIdx_nil, List.map_cons, List.map_nil, Nat.zero_add]
  have hlen := opRows_len op
  have hget := fun m j => opRows_get (op := op) (m := m) (j := j)
  have hll : (l.map flRow).length = l.length := by simp
  have hfl := fun o (h : o < l.length) => flName h
  unfold fbCells
  dsimp only
  generalize op.reverse.map natRow = R at hlen hget
  generalize l.map flRow = L at hll hfl
  have w1 : IntKind.i64.wrap ((op.length : Int) - 1) = (op.length : Int) - 1 := wrap_of rfl (by omega) (by omega)
  (try simp +decide (implicitDefEqProofs := false) only [go_sem, ↓stk_g, ↓stk_c, ↓reduceIte, hlen, w1, lay, oneOr, List.take_succ_cons, List.take_zero, List.drop_succ_cons, List.drop_zero, List.nil_append, List.cons_append, Option.getD_some, Nat.reduceAdd, Nat.reduceLeDiff, List.append_nil, and_self, List.all_cons, List.all_nil])
  refine stk_up (α := Unit) op.length (fun i _ => ⟨[(5, .v (.int .i64 ((op.length : Int) - 1 - i))), (0, .pl [.sl false 5 L, .sl false 1 R, .v (.bool bad)]), (1, .sl f 1 (strRows names))], AHeap.none⟩) (fun i _ => innerR l names op = innerR l names (op.drop i)) () (Weak.list _ (Sub.refl _) (by (try simp +decide (implicitDefEqProofs := false) only [go_sem, ↓stk_g, ↓stk_c, ↓reduceIte, Int.sub_zero, Int.natCast_zero, Int.cast_ofNat_Int]))) (by simp) ?_
  rintro j ⟨⟩ hj hJ
  by_cases hlt : j < op.length
  · obtain ⟨m, hm⟩ : ∃ m, m + j + 1 = op.length := ⟨op.length - 1 - j, by omega⟩
    have hi : (op.length : Int) - 1 - (j : Int) = (m : Int) := by omega
    have g0 : (0 : Int) ≤ (m : Int) := by omega
    have g1 : (m : Int) < (op.length : Int) := by omega
    have g2 : m < op.length := by omega
    have hg := hget m j hm
    have ho := h0 (op.getD j 0) (by simp [hlt])
    obtain ⟨a, t, u, hn⟩ := hfl _ ho
    rw [innerR_step l names op j hlt] at hJ
    generalize op.getD j 0 = o at hg ho hn hJ
    have g3 : (0 : Int) ≤ (o : Int) := by omega
    have g4 : (o : Int) < (l.length : Int) := by omega
    have hw : IntKind.i64.wrap ((m : Int) - 1) = (op.length : Int) - 1 - ((j : Int) + 1) := wrap_of (by omega) (by omega) (by omega)
    have hw2 : IntKind.i64.wrap ((m : Int) + 1) = ((op.length - j : Nat) : Int) := wrap_of (by omega) (by omega) (by omega)
    (try simp +decide (implicitDefEqProofs := false) only [go_sem, ↓stk_g, ↓stk_c, ↓reduceIte, hi, g0, hlen, hll, g1, g2, hg, g3, g4, ho, hn, lay, oneOr, List.take_succ_cons, List.take_zero, List.drop_succ_cons, List.drop_zero, List.nil_append, List.cons_append, Option.getD_some, Nat.reduceAdd, Nat.reduceLeDiff, List.append_nil, and_self, List.all_cons, List.all_nil])
    refine stk_pure (has04_ok f names (nameF l o) hl) fun v hv => ?_
    subst hv
    by_cases he : nameF l o ∈ names
    · have d := decide_eq_true he
      rw [if_pos he] at hJ
      (try simp +decide (implicitDefEqProofs := false) only [go_sem, ↓stk_g, ↓stk_c, ↓reduceIte, d, hw2])
      refine aret_pure (.inr rfl) ?_; simp +decide only [retOf, tget, if_true, if_false, ↓reduceIte, List.map_cons, List.map_nil]
      rw [hJ]
    · have d := decide_eq_false he
      rw [if_neg he] at hJ
      (try simp +decide (implicitDefEqProofs := false) only [go_sem, ↓stk_g, ↓stk_c, ↓reduceIte, d, hw])
      exact ⟨by omega, (), Weak.list _ (Sub.refl _) (by (try simp +decide (implicitDefEqProofs := false) only [go_sem, ↓stk_g, ↓stk_c, ↓reduceIte])), hJ⟩
  · have hi : (op.length : Int) - 1 - (j : Int) = -1 := by omega
    have g0 : ¬ (0 : Int) ≤ -1 := by omega
    (try simp +decide (implicitDefEqProofs := false) only [go_sem, ↓stk_g, ↓stk_c, ↓reduceIte, hi, g0])
    refine aret_pure (.inr rfl) ?_; simp +decide only [retOf, tget, if_true, if_false, ↓reduceIte, List.map_cons, List.map_nil]
    rw [hJ, List.drop_eq_nil_of_le (by omega)]
    rfl
theorem lastUp_step (l : List Fl) (h : Int) (m : Nat) (hm : m < l.length) : lastUp l h (m + 1) = if l[m].up = h then (m : Int) else lastUp l h m := by
  rw [lastUp]
  have : ((l[m]?).map (·.up) = some h) = (l[m].up = h) := by simp [hm]
  simp only [this]
theorem flUp {l : List Fl} {o : Nat} (h : o < l.length) : ∃ n a t, (l.map flRow).getD o [] = [n, a, t, .v (.slice none 0 0), .v (.int .i64 (l[o].up))] :=
  ⟨_, _, _, by rw [flRows_get h, flRow]⟩
def c_last04 : AFn := ⟨1, 26, [2],
  .seq (.ops [⟨(some 2), none, .q (.mv (.const (.int .i64 0)))⟩])
  (.seq (.seq (.ops [⟨(some 4), none, .q (.mv (.tmp 0))⟩,
      ⟨(some 5), none, .q (.nck (.tmp 4))⟩,
      ⟨(some 6), none, .q (.fad 0 1 (.tmp 5))⟩,
      ⟨(some 7), none, .q (.ld false 1 (.tmp 6))⟩,
      ⟨(some 8), none, .q (.len false (.tmp 7))⟩,
      ⟨(some 9), none, .q (.bin .sub .num (.tmp 8) (.const (.int .i64 1)))⟩,
      ⟨(some 3), none, .q (.mv (.tmp 9))⟩])
  (.block 0 (.loop (.seq (.seq (.ops [⟨(some 10), none, .q (.mv (.tmp 3))⟩,
          ⟨(some 11), none, .q (.bin .geq .num (.tmp 10) (.const (.int .i64 0)))⟩])
      (.cond (.tmp 11)
        (.skip)
        (.exit 0)))
      (.seq (.block 1 (.seq (.ops [⟨(some 14), none, .q (.mv (.tmp 0))⟩,
            ⟨(some 15), none, .q (.nck (.tmp 14))⟩,
            ⟨(some 16), none, .q (.fad 0 1 (.tmp 15))⟩,
            ⟨(some 17), none, .q (.ld false 1 (.tmp 16))⟩,
            ⟨(some 18), none, .q (.mv (.tmp 3))⟩,
            ⟨(some 19), none, .q (.ixa 5 (.tmp 17) (.tmp 18))⟩,
            ⟨(some 20), none, .q (.fad 4 1 (.tmp 19))⟩,
            ⟨(some 21), none, .q (.ld false 1 (.tmp 20))⟩,
            ⟨(some 22), none, .q (.mv (.tmp 0))⟩,
            ⟨(some 23), none, .e (.callq 47 [(.tmp 22)])⟩,
            ⟨(some 24), none, .q (.bin .eql .num (.tmp 21) (.tmp 23))⟩])
        (.cond (.tmp 24)
          (.seq (.ops [⟨(some 25), none, .q (.mv (.tmp 3))⟩,
              ⟨(some 2), none, .q (.mv (.tmp 25))⟩])
          (.ret))
          (.skip))))
      (.ops [⟨(some 12), none, .q (.mv (.tmp 3))⟩,
          ⟨(some 13), none, .q (.bin .sub .num (.tmp 12) (.const (.int .i64 1)))⟩,
          ⟨(some 3), none, .q (.mv (.tmp 13))⟩]))))))
  (.seq (.ops [⟨(some 2), none, .q (.mv (.const (.int .i64 (-1))))⟩])
  (.ret))), []⟩
theorem k_last04 : compF Try.prog 42 = some c_last04 := by kernel_rfl
set_option maxHeartbeats 4000000 in
theorem last04_ok {W : World} (x : FB) (hx : FW x) : ACalls Try.prog W 42 [.pl (fbCells x)] AHeap.none fun v _ => v = .v (.int .i64 (lastUp x.l (hereR x.op) x.l.length)) := by
  have hh := here_ok (W := W) x hx
  obtain ⟨h0, h1, h2⟩ := hx
  obtain ⟨l, op, bad⟩ := x
  dsimp only at h0 h1 h2 hh
  refine fn_run follows k_last04 rfl ?_
  simp only [c_last04, aretC_nil, List.zipIdx_cons, List.zipIdx_nil, List.map_cons, List.map_nil, Nat.zero_add]
  have hll : (l.map flRow).length = l.length := by simp
  have hfl := fun o (h : o < l.length) => flUp h
  unfold fbCells at hh ⊢
  dsimp only at hh ⊢
  generalize op.reverse.map natRow = R at hh
  generalize l.map flRow = L at hll hfl hh
  have w1 : IntKind.i64.wrap ((l.length : Int) - 1) = (l.length : Int) - 1 := wrap_of rfl (by omega) (by omega)
  (try simp +decide (implicitDefEqProofs := false) only [go_sem, ↓stk_g, ↓stk_c, ↓reduceIte, hll, w1, lay, oneOr, List.take_succ_cons, List.take_zero, List.drop_succ_cons, List.drop_zero, List.nil_append, List.cons_append, Option.getD_some, Nat.reduceAdd, Nat.reduceLeDiff, List.append_nil, and_self, List.all_cons, List.all_nil])
  refine stk_up (α := Unit) l.length (fun i _ => ⟨[(3, .v (.int .i64 ((l.length : Int) - 1 - i))), (0, .pl [.sl false 5 L, .sl false 1 R, .v (.bool bad)])], AHeap.none⟩) (fun i _ => lastUp l (hereR op) l.length = lastUp l (hereR op) (l.length - i)) () (Weak.list _ (Sub.refl _) (by (try simp +decide (implicitDefEqProofs := false) only [go_sem, ↓stk_g, ↓stk_c, ↓reduceIte, Int.sub_zero, Int.natCast_zero, Int.cast_ofNat_Int]))) rfl ?_
  rintro j ⟨⟩ hj hJ
  by_cases hlt : j < l.length
  · obtain ⟨m, hm⟩ : ∃ m, m + j + 1 = l.length := ⟨l.length - 1 - j, by omega⟩
    have hi : (l.length : Int) - 1 - (j : Int) = (m : Int) := by omega
    have g0 : (0 : Int) ≤ (m : Int) := by omega
    have g1 : (m : Int) < (l.length : Int) := by omega
    have g2 : m < l.length := by omega
    obtain ⟨a, t, u, hn⟩ := hfl m g2
    rw [show l.length - j = m + 1 by omega, lastUp_step l _ m g2] at hJ
    generalize l[m].up = o at hn hJ
    have hw : IntKind.i64.wrap ((m : Int) - 1) = (l.length : Int) - 1 - ((j : Int) + 1) := wrap_of (by omega) (by omega) (by omega)
    (try simp +decide (implicitDefEqProofs := false) only [go_sem, ↓stk_g, ↓stk_c, ↓reduceIte, hi, g0, hll, g1, g2, hn, lay, oneOr, List.take_succ_cons, List.take_zero, List.drop_succ_cons, List.drop_zero, List.nil_append, List.cons_append, Option.getD_some, Nat.reduceAdd, Nat.reduceLeDiff, List.append_nil, and_self, List.all_cons, List.all_nil])
    refine stk_callq hh fun v hv => ?_
    subst hv
    by_cases he : o = hereR op
    · have d := decide_eq_true he
      rw [if_pos he] at hJ
      (try simp +decide (implicitDefEqProofs := false) only [go_sem, ↓stk_g, ↓stk_c, ↓reduceIte, d, hi])
      refine aret_pure (.inr rfl) ?_; simp +decide only [retOf, tget, if_true, if_false, ↓reduceIte, List.map_cons, List.map_nil]
      rw [hJ]
    · have d := decide_eq_false he
      rw [if_neg he] at hJ
      (try simp +decide (implicitDefEqProofs := false) only [go_sem, ↓stk_g, ↓stk_c, ↓reduceIte, d, hw, hi])
      exact ⟨by omega, (), Weak.list _ (Sub.refl _) (by (try simp +decide (implicitDefEqProofs := false) only [go_sem, ↓stk_g, ↓stk_c, ↓reduceIte])), by rw [hJ, show l.length - (j + 1) = m by omega]⟩
  · have hi : (l.length : Int) - 1 - (j : Int) = -1 := by omega
    have g0 : ¬ (0 : Int) ≤ -1 := by omega
    (try simp +decide (implicitDefEqProofs := false) only [go_sem, ↓stk_g, ↓stk_c, ↓reduceIte, hi, g0])
    refine aret_pure (.inr rfl) ?_; simp +decide only [retOf, tget, if_true, if_false, ↓reduceIte, List.map_cons, List.map_nil]
    rw [hJ, show l.length - j = 0 by omega]
    rfl
theorem steqS (a b : Str) : steq [1, 1] (.agg [.v (.string a), .v (.string b)]) (.agg [.v (.string a), .v (.string b)]) = some true := by
  simp [steq, isAggA, aggA, flatEq, flat1]
def c_SameAttrs : AFn := ⟨2, 26, [4],
  .seq (.ops [⟨(some 4), none, .q (.mv (.const (.bool false)))⟩])
  (.seq (.seq (.ops [⟨(some 6), none, .q (.mv (.tmp 0))⟩,
      ⟨(some 7), none, .q (.len false (.tmp 6))⟩,
      ⟨(some 8), none, .q (.mv (.tmp 1))⟩,
      ⟨(some 9), none, .q (.len false (.tmp 8))⟩,
      ⟨(some 10), none, .q (.bin .neq .num (.tmp 7) (.tmp 9))⟩])
  (.cond (.tmp 10)
    (.seq (.ops [⟨(some 4), none, .q (.mv (.const (.bool false)))⟩])
    (.ret))
    (.skip)))
  (.seq (.seq (.ops [⟨(some 5), none, .q (.mv (.const (.int .i64 0)))⟩])
  (.block 0 (.loop (.seq (.seq (.ops [⟨(some 11), none, .q (.mv (.tmp 5))⟩,
          ⟨(some 12), none, .q (.mv (.tmp 0))⟩,
          ⟨(some 13), none, .q (.len false (.tmp 12))⟩,
          ⟨(some 14), none, .q (.bin .lss .num (.tmp 11) (.tmp 13))⟩])
      (.cond (.tmp 14)
        (.skip)
        (.exit 0)))
      (.seq (.block 1 (.seq (.ops [⟨(some 17), none, .q (.mv (.tmp 0))⟩,
            ⟨(some 18), none, .q (.mv (.tmp 5))⟩,
            ⟨(some 19), none, .q (.ixa 2 (.tmp 17) (.tmp 18))⟩,
            ⟨(some 20), none, .q (.ld true 2 (.tmp 19))⟩,
            ⟨(some 21), none, .q (.mv (.tmp 1))⟩,
            ⟨(some 22), none, .q (.mv (.tmp 5))⟩,
            ⟨(some 23), none, .q (.ixa 2 (.tmp 21) (.tmp 22))⟩,
            ⟨(some 24), none, .q (.ld true 2 (.tmp 23))⟩,
            ⟨(some 25), none, .q (.bin .neq (.struct [1, 1]) (.tmp 20) (.tmp 24))⟩])
        (.cond (.tmp 25)
          (.seq (.ops [⟨(some 4), none, .q (.mv (.const (.bool false)))⟩])
          (.ret))
          (.skip))))
      (.ops [⟨(some 15), none, .q (.mv (.tmp 5))⟩,
          ⟨(some 16), none, .q (.bin .add .num (.tmp 15) (.const (.int .i64 1)))⟩,
          ⟨(some 5), none, .q (.mv (.tmp 16))⟩]))))))
  (.seq (.ops [⟨(some 4), none, .q (.mv (.const (.bool true)))⟩])
  (.ret)))), []⟩
theorem k_SameAttrs : compF Try.prog 33 = some c_SameAttrs := by kernel_rfl
set_option maxHeartbeats 4000000 in
theorem sameAttrs_ok {W : World} (l : List Attr) (hl : l.length ≤ 1000000) : ACalls Try.prog W 33 [.sl false 2 (l.map attrRow), .sl false 2 (l.map attrRow)] AHeap.none fun v _ => v = .v (.bool true) := by
  refine fn_run follows k_SameAttrs rfl ?_
  simp only [c_SameAttrs, aretC_nil, List.zipIdx_cons, List.zipIdx_nil, List.map_cons, List.map_nil, Nat.zero_add]
  have hll : (l.map attrRow).length = l.length := by simp
  have hg := fun i (h : i < l.length) => (show (l.map attrRow).getD i [] = [.v (.string l[i].name), .v (.string l[i].value)] by simp [h, attrRow])
  generalize l.map attrRow = L at hll hg
  (try simp +decide (implicitDefEqProofs := false) only [go_sem, ↓stk_g, ↓stk_c, ↓reduceIte, hll, ne_eq, not_true_eq_false, lay, oneOr, List.take_succ_cons, List.take_zero, List.drop_succ_cons, List.drop_zero, List.nil_append, List.cons_append, Option.getD_some, Nat.reduceAdd, Nat.reduceLeDiff, List.append_nil, and_self, List.all_cons, List.all_nil])
  refine stk_up (α := Unit) l.length (fun i _ => ⟨[(5, .v (.int .i64 i)), (0, .sl false 2 L), (1, .sl false 2 L)], AHeap.none⟩) (fun i _ => True) () (Weak.list _ (Sub.refl _) (by (try simp +decide (implicitDefEqProofs := false) only [go_sem, ↓stk_g, ↓stk_c, ↓reduceIte]))) trivial ?_
  rintro i ⟨⟩ hi -
  by_cases hlt : i < l.length
  · have g1 : (i : Int) < (l.length : Int) := by omega
    have h1 := hg i hlt
    have hw := wrap_in (n := i + 1) (by omega) (by omega)
    have hs := steqS l[i].name l[i].value
    (try simp +decide (implicitDefEqProofs := false) only [go_sem, ↓stk_g, ↓stk_c, ↓reduceIte, hll, g1, hlt, h1, hw, hs, Option.isSome_some, Option.getD_some, ne_eq, not_true_eq_false, lay, oneOr, List.take_succ_cons, List.take_zero, List.drop_succ_cons, List.drop_zero, List.nil_append, List.cons_append, Option.getD_some, Nat.reduceAdd, Nat.reduceLeDiff, List.append_nil, and_self, List.all_cons, List.all_nil])
    first | exact ⟨by omega, (), Weak.list _ (Sub.none _) (by (try simp +decide (implicitDefEqProofs := false) only [go_sem, ↓stk_g, ↓stk_c, ↓reduceIte])), trivial⟩ | exact ⟨by omega, (), Weak.list _ (Sub.none _) (by (try simp +decide (implicitDefEqProofs := false) only [go_sem, ↓stk_g, ↓stk_c, ↓reduceIte]))⟩ | exact ⟨by omega, Weak.list _ (Sub.none _) (by (try simp +decide (implicitDefEqProofs := false) only [go_sem, ↓stk_g, ↓stk_c, ↓reduceIte]))⟩ | exact ⟨(), Weak.list _ (Sub.none _) (by (try simp +decide (implicitDefEqProofs := false) only [go_sem, ↓stk_g, ↓stk_c, ↓reduceIte]))⟩
  · have g1 : ¬ (i : Int) < (l.length : Int) := by omega
    (try simp +decide (implicitDefEqProofs := false) only [go_sem, ↓stk_g, ↓stk_c, ↓reduceIte, hll, g1])
    refine aret_pure (.inr rfl) ?_; simp +decide only [retOf, tget, if_true, if_false, ↓reduceIte, List.map_cons, List.map_nil]
def attrsOk (l : List Node) : Prop := ∀ n ∈ l, n.attrs.length ≤ 1000000
/-- All attributes of a tree are few. -/
def AFew : List Node → Prop
  | [] => True
  | ⟨_, ats, _, ks⟩ :: r => ats.length ≤ 1000000 ∧ AFew ks ∧ AFew r
theorem AFew_at : ∀ {l : List Node} {k : Nat} (h : k < l.length), AFew l → l[k].attrs.length ≤ 1000000 ∧ AFew l[k].kids
  | ⟨_, ats, _, ks⟩ :: r, 0, h, hf => by rw [AFew] at hf; exact ⟨hf.1, hf.2.1⟩
  | ⟨_, ats, _, ks⟩ :: r, k + 1, h, hf => by
    rw [AFew] at hf
    simp only [List.getElem_cons_succ]
    exact AFew_at (by simpa using h) hf.2.2
def c_Same04 : AFn := ⟨2, 69, [4],
  .seq (.ops [⟨(some 4), none, .q (.mv (.const (.bool false)))⟩])
  (.seq (.seq (.ops [⟨(some 6), none, .q (.mv (.tmp 0))⟩,
      ⟨(some 7), none, .q (.len false (.tmp 6))⟩,
      ⟨(some 8), none, .q (.mv (.tmp 1))⟩,
      ⟨(some 9), none, .q (.len false (.tmp 8))⟩,
      ⟨(some 10), none, .q (.bin .neq .num (.tmp 7) (.tmp 9))⟩])
  (.cond (.tmp 10)
    (.seq (.ops [⟨(some 4), none, .q (.mv (.const (.bool false)))⟩])
    (.ret))
    (.skip)))
  (.seq (.seq (.ops [⟨(some 5), none, .q (.mv (.const (.int .i64 0)))⟩])
  (.block 0 (.loop (.seq (.seq (.ops [⟨(some 11), none, .q (.mv (.tmp 5))⟩,
          ⟨(some 12), none, .q (.mv (.tmp 0))⟩,
          ⟨(some 13), none, .q (.len false (.tmp 12))⟩,
          ⟨(some 14), none, .q (.bin .lss .num (.tmp 11) (.tmp 13))⟩])
      (.cond (.tmp 14)
        (.skip)
        (.exit 0)))
      (.seq (.block 1 (.seq (.ops [⟨(some 17), none, .q (.mv (.tmp 0))⟩,
            ⟨(some 18), none, .q (.mv (.tmp 5))⟩,
            ⟨(some 19), none, .q (.ixa 4 (.tmp 17) (.tmp 18))⟩,
            ⟨(some 20), none, .q (.fad 0 1 (.tmp 19))⟩,
            ⟨(some 21), none, .q (.ld false 1 (.tmp 20))⟩,
            ⟨(some 22), none, .q (.mv (.tmp 1))⟩,
            ⟨(some 23), none, .q (.mv (.tmp 5))⟩,
            ⟨(some 24), none, .q (.ixa 4 (.tmp 22) (.tmp 23))⟩,
            ⟨(some 25), none, .q (.fad 0 1 (.tmp 24))⟩,
            ⟨(some 26), none, .q (.ld false 1 (.tmp 25))⟩,
            ⟨(some 27), none, .q (.bin .neq .num (.tmp 21) (.tmp 26))⟩,
            ⟨(some 28), none, .q (.mv (.tmp 27))⟩,
            ⟨(some 29), (some (28, false)), .q (.mv (.tmp 0))⟩,
            ⟨(some 30), (some (28, false)), .q (.mv (.tmp 5))⟩,
            ⟨(some 31), (some (28, false)), .q (.ixa 4 (.tmp 29) (.tmp 30))⟩,
            ⟨(some 32), (some (28, false)), .q (.fad 2 1 (.tmp 31))⟩,
            ⟨(some 33), (some (28, false)), .q (.ld false 1 (.tmp 32))⟩,
            ⟨(some 34), (some (28, false)), .q (.mv (.tmp 1))⟩,
            ⟨(some 35), (some (28, false)), .q (.mv (.tmp 5))⟩,
            ⟨(some 36), (some (28, false)), .q (.ixa 4 (.tmp 34) (.tmp 35))⟩,
            ⟨(some 37), (some (28, false)), .q (.fad 2 1 (.tmp 36))⟩,
            ⟨(some 38), (some (28, false)), .q (.ld false 1 (.tmp 37))⟩,
            ⟨(some 39), (some (28, false)), .q (.bin .neq .num (.tmp 33) (.tmp 38))⟩,
            ⟨(some 40), none, .q (.pick (.tmp 28) (.const (.bool true)) (.tmp 39))⟩,
            ⟨(some 41), none, .q (.mv (.tmp 40))⟩,
            ⟨(some 42), (some (41, false)), .q (.mv (.tmp 0))⟩,
            ⟨(some 43), (some (41, false)), .q (.mv (.tmp 5))⟩,
            ⟨(some 44), (some (41, false)), .q (.ixa 4 (.tmp 42) (.tmp 43))⟩,
            ⟨(some 45), (some (41, false)), .q (.fad 1 1 (.tmp 44))⟩,
            ⟨(some 46), (some (41, false)), .q (.ld false 1 (.tmp 45))⟩,
            ⟨(some 47), (some (41, false)), .q (.mv (.tmp 1))⟩,
            ⟨(some 48), (some (41, false)), .q (.mv (.tmp 5))⟩,
            ⟨(some 49), (some (41, false)), .q (.ixa 4 (.tmp 47) (.tmp 48))⟩,
            ⟨(some 50), (some (41, false)), .q (.fad 1 1 (.tmp 49))⟩,
            ⟨(some 51), (some (41, false)), .q (.ld false 1 (.tmp 50))⟩,
            ⟨(some 52), (some (41, false)), .e (.call 33 [(.tmp 46), (.tmp 51)])⟩,
            ⟨(some 53), (some (41, false)), .q (.un .not (.tmp 52))⟩,
            ⟨(some 54), none, .q (.pick (.tmp 41) (.const (.bool true)) (.tmp 53))⟩,
            ⟨(some 55), none, .q (.mv (.tmp 54))⟩,
            ⟨(some 56), (some (55, false)), .q (.mv (.tmp 0))⟩,
            ⟨(some 57), (some (55, false)), .q (.mv (.tmp 5))⟩,
            ⟨(some 58), (some (55, false)), .q (.ixa 4 (.tmp 56) (.tmp 57))⟩,
            ⟨(some 59), (some (55, false)), .q (.fad 3 1 (.tmp 58))⟩,
            ⟨(some 60), (some (55, false)), .q (.ld false 1 (.tmp 59))⟩,
            ⟨(some 61), (some (55, false)), .q (.mv (.tmp 1))⟩,
            ⟨(some 62), (some (55, false)), .q (.mv (.tmp 5))⟩,
            ⟨(some 63), (some (55, false)), .q (.ixa 4 (.tmp 61) (.tmp 62))⟩,
            ⟨(some 64), (some (55, false)), .q (.fad 3 1 (.tmp 63))⟩,
            ⟨(some 65), (some (55, false)), .q (.ld false 1 (.tmp 64))⟩,
            ⟨(some 66), (some (55, false)), .e (.call 16 [(.tmp 60), (.tmp 65)])⟩,
            ⟨(some 67), (some (55, false)), .q (.un .not (.tmp 66))⟩,
            ⟨(some 68), none, .q (.pick (.tmp 55) (.const (.bool true)) (.tmp 67))⟩])
        (.cond (.tmp 68)
          (.seq (.ops [⟨(some 4), none, .q (.mv (.const (.bool false)))⟩])
          (.ret))
          (.skip))))
      (.ops [⟨(some 15), none, .q (.mv (.tmp 5))⟩,
          ⟨(some 16), none, .q (.bin .add .num (.tmp 15) (.const (.int .i64 1)))⟩,
          ⟨(some 5), none, .q (.mv (.tmp 16))⟩]))))))
  (.seq (.ops [⟨(some 4), none, .q (.mv (.const (.bool true)))⟩])
  (.ret)))), []⟩
theorem k_Same04 : compF Try.prog 16 = some c_Same04 := by kernel_rfl
set_option maxHeartbeats 8000000 in
theorem same04_step {W : World} (n : Nat) (hn : n ≤ 1000000000) (ih : ∀ (l : List Node), nCount l < n → AFew l → ACalls Try.prog W 16 [.sl false 4 (l.map nodeRow), .sl false 4 (l.map nodeRow)] AHeap.none fun v _ => v = .v (.bool true)) (l : List Node) (hl : nCount l < n + 1) (hf : AFew l) : ACalls Try.prog W 16 [.sl false 4 (l.map nodeRow), .sl false 4 (l.map nodeRow)] AHeap.none fun v _ => v = .v (.bool true) := by
  have hll := nCount_len l
  have hlm : (l.map nodeRow).length = l.length := by simp
  refine fn_run follows k_Same04 rfl ?_
  simp only [c_Same04, aretC_nil, List.zipIdx_cons, List.zipIdx_nil, List.map_cons, List.map_nil, Nat.zero_add]
  have hgall := fun k (h : k < l.length) => nodeRows_get h
  generalize l.map nodeRow = L at hlm hgall
  (try simp +decide (implicitDefEqProofs := false) only [go_sem, ↓stk_g, ↓stk_c, ↓reduceIte, hlm, ne_eq, not_true_eq_false, lay, oneOr, List.take_succ_cons, List.take_zero, List.drop_succ_cons, List.drop_zero, List.nil_append, List.cons_append, Option.getD_some, Nat.reduceAdd, Nat.reduceLeDiff, List.append_nil, and_self, List.all_cons, List.all_nil])
  refine stk_up (α := Unit) l.length (fun i _ => ⟨[(5, .v (.int .i64 i)), (0, .sl false 4 L), (1, .sl false 4 L)], AHeap.none⟩) (fun _ _ => True) () (Weak.list _ (Sub.refl _) (by (try simp +decide (implicitDefEqProofs := false) only [go_sem, ↓stk_g, ↓stk_c, ↓reduceIte]))) trivial ?_
  rintro k ⟨⟩ hk -
  by_cases hlt : k < l.length
  · have g1 : (k : Int) < (l.length : Int) := by omega
    have hw := wrap_in (n := k + 1) (by omega) (by omega)
    have hg := hgall k hlt
    obtain ⟨ha, hfk⟩ := AFew_at hlt hf
    have hck := nCount_le l k hlt
    generalize l[k] = x at hg hfk hck ha
    have ihk := ih x.kids (by omega) hfk
    have hat := sameAttrs_ok (W := W) x.attrs ha
    generalize x.kids.map nodeRow = kr at hg ihk
    generalize x.attrs.map attrRow = ar at hg hat
    (try simp +decide (implicitDefEqProofs := false) only [go_sem, ↓stk_g, ↓stk_c, ↓reduceIte, g1, hlm, hg, hlt, ne_eq, not_true_eq_false, lay, oneOr, List.take_succ_cons, List.take_zero, List.drop_succ_cons, List.drop_zero, List.nil_append, List.cons_append, Option.getD_some, Nat.reduceAdd, Nat.reduceLeDiff, List.append_nil, and_self, List.all_cons, List.all_nil])
    refine stk_pure (hat) fun v hv => ?_
    subst hv
    (try simp +decide (implicitDefEqProofs := false) only [go_sem, ↓stk_g, ↓stk_c, ↓reduceIte, g1, hlm, hg, hlt, ne_eq, not_true_eq_false, lay, oneOr, List.take_succ_cons, List.take_zero, List.drop_succ_cons, List.drop_zero, List.nil_append, List.cons_append, Option.getD_some, Nat.reduceAdd, Nat.reduceLeDiff, List.append_nil, and_self, List.all_cons, List.all_nil])
    refine stk_pure (ihk) fun v hv => ?_
    subst hv
    (try simp +decide (implicitDefEqProofs := false) only [go_sem, ↓stk_g, ↓stk_c, ↓reduceIte, hw])
    first | exact ⟨by omega, (), Weak.list _ (Sub.none _) (by (try simp +decide (implicitDefEqProofs := false) only [go_sem, ↓stk_g, ↓stk_c, ↓reduceIte])), trivial⟩ | exact ⟨by omega, (), Weak.list _ (Sub.none _) (by (try simp +decide (implicitDefEqProofs := false) only [go_sem, ↓stk_g, ↓stk_c, ↓reduceIte]))⟩ | exact ⟨by omega, Weak.list _ (Sub.none _) (by (try simp +decide (implicitDefEqProofs := false) only [go_sem, ↓stk_g, ↓stk_c, ↓reduceIte]))⟩ | exact ⟨(), Weak.list _ (Sub.none _) (by (try simp +decide (implicitDefEqProofs := false) only [go_sem, ↓stk_g, ↓stk_c, ↓reduceIte]))⟩
  · have g1 : ¬ (k : Int) < (l.length : Int) := by omega
    (try simp +decide (implicitDefEqProofs := false) only [go_sem, ↓stk_g, ↓stk_c, ↓reduceIte, g1, hlm])
    refine aret_pure (.inr rfl) ?_; simp +decide only [retOf, tget, if_true, if_false, ↓reduceIte, List.map_cons, List.map_nil]
theorem same04_ok {W : World} : ∀ (n : Nat) (l : List Node), nCount l < n → n ≤ 1000000000 → AFew l → ACalls Try.prog W 16 [.sl false 4 (l.map nodeRow), .sl false 4 (l.map nodeRow)] AHeap.none fun v _ => v = .v (.bool true)
  | 0, l, hl, _, _ => by omega
  | n + 1, l, hl, hn, hf => same04_step n (by omega) (fun l h hf => same04_ok n l h (by omega) hf) l hl hf
theorem RowO.kept {H H2 : AHeap} {E sz : Nat} {x : AVal} {rows : List (List AVal)} (h : RowO H E sz x rows) (hk : ∀ c o, H c = some o → blkOf x = some c → H2 c = some o) : RowO H2 E sz x rows := by
  cases h with
  | nil => exact .nil
  | @bs g n _ h hn => exact .bs (hk g _ h rfl) hn
theorem RowO.new {H : AHeap} {E sz : Nat} {x : AVal} {rows : List (List AVal)} (h : RowO H E sz x rows) {b : Nat} {o : AObj} (hb : H b = none) : RowO (H.put b o) E sz x rows :=
  h.kept fun c o' hc _ => (hp_ne _ _ (fun e => by rw [e, hb] at hc; cases hc)).trans hc
def kidCell (n : Node) : AVal := if n.name = ByteArray.empty then .v (.slice none 0 0) else .sl false 4 (n.kids.map nodeRow)
def rawNode (n : Node) : List AVal := [.v (.string n.name), .sl false 2 (n.attrs.map attrRow), .v (.string n.text), kidCell n]
theorem fz_rawNode {H H' : AHeap} {n : Node} (hn : n.name = ByteArray.empty → n.kids = []) : ∀ j (hj : j < (rawNode n).length) (hj' : j < (nodeRow n).length), FZ H H' (rawNode n)[j] (nodeRow n)[j] := by
  rw [nodeRow_def]
  intro j hj hj'
  rcases j with _ | _ | _ | _ | j
  · exact .refl _
  · exact .refl _
  · exact .refl _
  · show FZ H H' (kidCell n) (.sl false 4 (n.kids.map nodeRow))
    unfold kidCell
    split
    · rename_i e
      rw [hn e]; exact .nil 4
    · exact .refl _
  · simp [rawNode] at hj; omega
theorem fz_nodes {H : AHeap} {E : TypeId} {x : AVal} {l : List Node} (h : RowO H E 4 x (l.map rawNode)) (ha : ∀ n ∈ l, n.name = ByteArray.empty → n.kids = []) : FZ H AHeap.none x (.sl false 4 (l.map nodeRow)) := by
  generalize he : l.map rawNode = rows at h
  cases h with
  | nil =>
    have : l = [] := by simpa using he
    subst this; exact .nil 4
  | @bs g n rows hb hn =>
    subst he
    refine .buf hb rfl (by omega) (by rw [hn]; simp) (fun i hi => by simp [nodeRow_def]) (fun i hi j hj => ?_) (fun i hi hi' j hj hj' => ?_)
    · simp only [List.getElem_map, nodeRow_def] at hj ⊢
      rcases j with _ | _ | _ | _ | j <;> first | rfl | (simp at hj; omega)
    · simp only [List.getElem_map] at hj hj' ⊢
      exact fz_rawNode (ha _ (List.getElem_mem _)) j hj hj'
theorem kidsS_at {l : List Fl} {i : Nat} (up : Int) (h : i < l.length) : kidsS (l.drop i) i up = if l[i].up = up then ⟨l[i].name, l[i].attrs, l[i].text, if l[i].name = ByteArray.empty then [] else kidsS (l.drop (i + 1)) (i + 1) i⟩ :: kidsS (l.drop (i + 1)) (i + 1) up else kidsS (l.drop (i + 1)) (i + 1) up := by
  rw [List.drop_eq_getElem_cons h, kidsS]
def c_kids04 : AFn := ⟨2, 49, [4],
  .seq (.ops [⟨(some 4), none, .q (.mv (.const (.slice none 0 0)))⟩])
  (.seq (.ops [⟨(some 5), none, .q (.mv (.const (.slice none 0 0)))⟩])
  (.seq (.seq (.ops [⟨(some 8), none, .q (.mv (.tmp 1))⟩,
      ⟨(some 9), none, .q (.bin .add .num (.tmp 8) (.const (.int .i64 1)))⟩,
      ⟨(some 6), none, .q (.mv (.tmp 9))⟩])
  (.block 0 (.loop (.seq (.seq (.ops [⟨(some 10), none, .q (.mv (.tmp 6))⟩,
          ⟨(some 11), none, .q (.mv (.tmp 0))⟩,
          ⟨(some 12), none, .q (.nck (.tmp 11))⟩,
          ⟨(some 13), none, .q (.fad 0 1 (.tmp 12))⟩,
          ⟨(some 14), none, .q (.ld false 1 (.tmp 13))⟩,
          ⟨(some 15), none, .q (.len false (.tmp 14))⟩,
          ⟨(some 16), none, .q (.bin .lss .num (.tmp 10) (.tmp 15))⟩])
      (.cond (.tmp 16)
        (.skip)
        (.exit 0)))
      (.seq (.block 1 (.seq (.ops [⟨(some 19), none, .q (.mv (.tmp 0))⟩,
            ⟨(some 20), none, .q (.nck (.tmp 19))⟩,
            ⟨(some 21), none, .q (.fad 0 1 (.tmp 20))⟩,
            ⟨(some 22), none, .q (.ld false 1 (.tmp 21))⟩,
            ⟨(some 23), none, .q (.mv (.tmp 6))⟩,
            ⟨(some 24), none, .q (.ixa 5 (.tmp 22) (.tmp 23))⟩,
            ⟨(some 25), none, .q (.fad 4 1 (.tmp 24))⟩,
            ⟨(some 26), none, .q (.ld false 1 (.tmp 25))⟩,
            ⟨(some 27), none, .q (.mv (.tmp 1))⟩,
            ⟨(some 28), none, .q (.bin .eql .num (.tmp 26) (.tmp 27))⟩])
        (.cond (.tmp 28)
          (.seq (.ops [⟨(some 29), none, .q (.mv (.tmp 0))⟩,
              ⟨(some 30), none, .q (.nck (.tmp 29))⟩,
              ⟨(some 31), none, .q (.fad 0 1 (.tmp 30))⟩,
              ⟨(some 32), none, .q (.ld false 1 (.tmp 31))⟩,
              ⟨(some 33), none, .q (.mv (.tmp 6))⟩,
              ⟨(some 34), none, .q (.ixa 5 (.tmp 32) (.tmp 33))⟩,
              ⟨(some 35), none, .q (.fad 0 4 (.tmp 34))⟩,
              ⟨(some 36), none, .q (.ld true 4 (.tmp 35))⟩,
              ⟨(some 7), none, .e (.alloc 37 [(.string ByteArray.empty), (.slice none 0 0), (.string ByteArray.empty), (.slice none 0 0)])⟩,
              ⟨none, none, .e (.st 4 (.tmp 7) (.tmp 36))⟩])
          (.seq (.seq (.ops [⟨(some 37), none, .q (.fad 0 1 (.tmp 7))⟩,
              ⟨(some 38), none, .q (.ld false 1 (.tmp 37))⟩,
              ⟨(some 39), none, .q (.bin .neq .num (.tmp 38) (.const (.string ByteArray.empty)))⟩])
          (.cond (.tmp 39)
            (.ops [⟨(some 40), none, .q (.mv (.tmp 0))⟩,
                ⟨(some 41), none, .q (.mv (.tmp 6))⟩,
                ⟨(some 42), none, .e (.call 32 [(.tmp 40), (.tmp 41)])⟩,
                ⟨(some 43), none, .q (.fad 3 1 (.tmp 7))⟩,
                ⟨none, none, .e (.st 1 (.tmp 43) (.tmp 42))⟩])
            (.skip)))
          (.ops [⟨(some 44), none, .q (.mv (.tmp 5))⟩,
              ⟨(some 45), none, .q (.ld true 4 (.tmp 7))⟩,
              ⟨(some 46), none, .e (.bsl 37 4 [(.tmp 45)])⟩,
              ⟨(some 47), none, .e (.app 37 4 80 false (.tmp 44) (.tmp 46))⟩,
              ⟨(some 5), none, .q (.mv (.tmp 47))⟩])))
          (.skip))))
      (.ops [⟨(some 17), none, .q (.mv (.tmp 6))⟩,
          ⟨(some 18), none, .q (.bin .add .num (.tmp 17) (.const (.int .i64 1)))⟩,
          ⟨(some 6), none, .q (.mv (.tmp 18))⟩]))))))
  (.seq (.ops [⟨(some 48), none, .q (.mv (.tmp 5))⟩,
      ⟨(some 4), none, .q (.mv (.tmp 48))⟩])
  (.ret)))), []⟩
theorem k_kids04 : compF Try.prog 32 = some c_kids04 := by kernel_rfl
set_option maxHeartbeats 8000000 in
theorem kids04_step {W : World} (x : FB) (hx : FW x) (n : Nat)
    (ih : ∀ u : Nat, u < x.l.length → x.l.length < u + 1 + n → ACalls Try.prog W 32 [.pl (fbCells x), .v (.int .i64 (u : Int))] AHeap.none fun v _ => v = .sl false 4 ((kidsS (x.l.drop (u + 1)) (u + 1) u).map nodeRow))
    (s : Nat) (up : Int) (hs : up + 1 = s) (hsl : s ≤ x.l.length) (hl : x.l.length < s + n + 1) : ACalls Try.prog W 32 [.pl (fbCells x), .v (.int .i64 up)] AHeap.none fun v _ => v = .sl false 4 ((kidsS (x.l.drop s) s up).map nodeRow) := by
  obtain ⟨h0, h1, h2⟩ := hx
  obtain ⟨l, op, bad⟩ := x
  dsimp only at h0 h1 h2 ih hl hsl ⊢
  refine fn_run follows k_kids04 rfl ?_
  simp only [c_kids04, aretC_nil, List.zipIdx_cons, List.zipIdx_nil, List.map_cons, List.map_nil, Nat.zero_add]
  have hll : (l.map flRow).length = l.length := by simp
  have hfl := fun o (h : o < l.length) => flRows_get h
  unfold fbCells at ih ⊢
  dsimp only at ih ⊢
  generalize op.reverse.map natRow = R at ih
  generalize l.map flRow = L at hll hfl ih
  have w1 : IntKind.i64.wrap (up + 1) = (s : Int) := wrap_of hs (by omega) (by omega)
  (try simp +decide (implicitDefEqProofs := false) only [go_sem, ↓stk_g, ↓stk_c, ↓reduceIte, w1, lay, oneOr, List.take_succ_cons, List.take_zero, List.drop_succ_cons, List.drop_zero, List.nil_append, List.cons_append, Option.getD_some, Nat.reduceAdd, Nat.reduceLeDiff, List.append_nil, and_self, List.all_cons, List.all_nil])
  refine stk_up (α := AVal × AHeap) (l.length - s) (fun i q => ⟨[(6, .v (.int .i64 ((s : Int) + i))), (5, q.1), (0, .pl [.sl false 5 L, .sl false 1 R, .v (.bool bad)]), (1, .v (.int .i64 up))], q.2⟩)
    (fun i q => ∃ done : List Node, RowO q.2 37 4 q.1 (done.map rawNode) ∧ done.length ≤ i ∧ done ++ kidsS (l.drop (s + i)) (s + i) up = kidsS (l.drop s) s up ∧ ∀ n ∈ done, n.name = ByteArray.empty → n.kids = []) (.v (.slice none 0 0), AHeap.none) (Weak.list _ (Sub.refl _) (by (try simp +decide (implicitDefEqProofs := false) only [go_sem, ↓stk_g, ↓stk_c, ↓reduceIte, Int.add_zero, Int.natCast_zero, Int.cast_ofNat_Int]))) ⟨[], RowO.nil, by simp, by simp, by simp⟩ ?_
  rintro i ⟨x, H⟩ hi ⟨done, hrow, hdl, heq, hall⟩
  dsimp only at hrow
  obtain ⟨m, hm⟩ : ∃ m, m = s + i := ⟨_, rfl⟩
  have hmi : (s : Int) + (i : Int) = (m : Int) := by omega
  rw [← hm] at heq
  by_cases hlt : m < l.length
  · have g1 : (m : Int) < (l.length : Int) := by omega
    have g0 : (0 : Int) ≤ (m : Int) := by omega
    have hg := hfl m hlt
    rw [kidsS_at up hlt] at heq
    have hw : IntKind.i64.wrap ((m : Int) + 1) = (s : Int) + ((i : Int) + 1) := wrap_of (by omega) (by omega) (by omega)
    have ihm := ih m (by omega) (by omega)
    generalize l[m] = F at hg heq
    by_cases he : F.up = up
    · have d : decide (F.up = up) = true := decide_eq_true he
      rw [if_pos he] at heq
      (try simp +decide (implicitDefEqProofs := false) only [go_sem, ↓stk_g, ↓stk_c, ↓reduceIte, hmi, hll, g1, g0, hlt, hg, flRow, d, lay, oneOr, List.take_succ_cons, List.take_zero, List.drop_succ_cons, List.drop_zero, List.nil_append, List.cons_append, Option.getD_some, Nat.reduceAdd, Nat.reduceLeDiff, List.append_nil, and_self, List.all_cons, List.all_nil])
      rw [stk_alloc]
      intro b hb
      have hb : H b = none := hb
      by_cases hn : F.name = ByteArray.empty
      · have d2 : decide (¬ F.name = ByteArray.empty) = false := decide_eq_false (fun h => h hn)
        rw [if_pos hn] at heq
        have hnk : kidCell ⟨F.name, F.attrs, F.text, []⟩ = .v (.slice none 0 0) := if_pos hn
        (try simp +decide (implicitDefEqProofs := false) only [go_sem, ↓stk_g, ↓stk_c, ↓reduceIte, hp_self, hp_hp, d2, ne_eq, not_true_eq_false, lay, oneOr, List.take_succ_cons, List.take_zero, List.drop_succ_cons, List.drop_zero, List.nil_append, List.cons_append, Option.getD_some, Nat.reduceAdd, Nat.reduceLeDiff, List.append_nil, and_self, List.all_cons, List.all_nil])
        refine stk_appO (rows := done.map rawNode) (hrow.new hb) (by rfl) (by simp only [List.length_map, List.length_cons, List.length_nil]; omega) fun x1 H1 hr1 _ => ?_
        (try simp +decide (implicitDefEqProofs := false) only [go_sem, ↓stk_g, ↓stk_c, ↓reduceIte, hw, hmi])
        refine ⟨by omega, (x1, H1), Weak.list _ (Sub.refl _) (by (try simp +decide (implicitDefEqProofs := false) only [go_sem, ↓stk_g, ↓stk_c, ↓reduceIte])), done ++ [⟨F.name, F.attrs, F.text, []⟩], ?_, by simp; omega, ?_, ?_⟩
        · simpa [rawNode, hnk] using hr1
        · rw [show s + (i + 1) = m + 1 by omega, ← heq]; simp
        · intro n hnm
          rcases List.mem_append.1 hnm with h | h
          · exact hall n h
          · simp at h; subst h; exact fun _ => rfl
      · have d2 : decide (¬ F.name = ByteArray.empty) = true := decide_eq_true hn
        rw [if_neg hn] at heq
        have hnk : ∀ ks, kidCell ⟨F.name, F.attrs, F.text, ks⟩ = .sl false 4 (ks.map nodeRow) := fun ks => if_neg hn
        (try simp +decide (implicitDefEqProofs := false) only [go_sem, ↓stk_g, ↓stk_c, ↓reduceIte, hp_self, hp_hp, d2, ne_eq, not_true_eq_false, lay, oneOr, List.take_succ_cons, List.take_zero, List.drop_succ_cons, List.drop_zero, List.nil_append, List.cons_append, Option.getD_some, Nat.reduceAdd, Nat.reduceLeDiff, List.append_nil, and_self, List.all_cons, List.all_nil])
        refine stk_pure ihm fun v hv => ?_
        subst hv
        (try simp +decide (implicitDefEqProofs := false) only [go_sem, ↓stk_g, ↓stk_c, ↓reduceIte, hp_self, hp_hp, lay, oneOr, List.take_succ_cons, List.take_zero, List.drop_succ_cons, List.drop_zero, List.nil_append, List.cons_append, Option.getD_some, Nat.reduceAdd, Nat.reduceLeDiff, List.append_nil, and_self, List.all_cons, List.all_nil])
        refine stk_appO (rows := done.map rawNode) (hrow.new hb) (by rfl) (by simp only [List.length_map, List.length_cons, List.length_nil]; omega) fun x1 H1 hr1 _ => ?_
        (try simp +decide (implicitDefEqProofs := false) only [go_sem, ↓stk_g, ↓stk_c, ↓reduceIte, hw, hmi])
        refine ⟨by omega, (x1, H1), Weak.list _ (Sub.refl _) (by (try simp +decide (implicitDefEqProofs := false) only [go_sem, ↓stk_g, ↓stk_c, ↓reduceIte])), done ++ [⟨F.name, F.attrs, F.text, kidsS (l.drop (m + 1)) (m + 1) m⟩], ?_, by simp; omega, ?_, ?_⟩
        · simpa [rawNode, hnk] using hr1
        · rw [show s + (i + 1) = m + 1 by omega, ← heq]; simp
        · intro n hnm
          rcases List.mem_append.1 hnm with h | h
          · exact hall n h
          · simp at h; subst h; exact fun e => absurd e hn
    · have d : decide (F.up = up) = false := decide_eq_false he
      rw [if_neg he] at heq
      (try simp +decide (implicitDefEqProofs := false) only [go_sem, ↓stk_g, ↓stk_c, ↓reduceIte, hmi, hll, g1, g0, hlt, hg, flRow, d, hw, lay, oneOr, List.take_succ_cons, List.take_zero, List.drop_succ_cons, List.drop_zero, List.nil_append, List.cons_append, Option.getD_some, Nat.reduceAdd, Nat.reduceLeDiff, List.append_nil, and_self, List.all_cons, List.all_nil])
      exact ⟨by omega, (x, H), Weak.list _ (Sub.refl _) (by (try simp +decide (implicitDefEqProofs := false) only [go_sem, ↓stk_g, ↓stk_c, ↓reduceIte])), done, hrow, by omega, by rw [show s + (i + 1) = m + 1 by omega]; exact heq, hall⟩
  · have g1 : ¬ (m : Int) < (l.length : Int) := by omega
    rw [List.drop_eq_nil_of_le (by omega), kidsS, List.append_nil] at heq
    (try simp +decide (implicitDefEqProofs := false) only [go_sem, ↓stk_g, ↓stk_c, ↓reduceIte, hmi, hll, g1])
    refine ⟨.inr rfl, AHeap.none, _, Sub.none _, ?_, rfl⟩
    rw [← heq]
    simp +decide only [retOf, tget, if_true, if_false, ↓reduceIte]
    exact fz_nodes hrow hall
theorem kids04_at {W : World} (x : FB) (hx : FW x) : ∀ (n u : Nat), u < x.l.length → x.l.length < u + 1 + n → ACalls Try.prog W 32 [.pl (fbCells x), .v (.int .i64 (u : Int))] AHeap.none fun v _ => v = .sl false 4 ((kidsS (x.l.drop (u + 1)) (u + 1) u).map nodeRow)
  | 0, u, h1, h2 => by omega
  | n + 1, u, h1, h2 => kids04_step x hx n (fun u h1 h2 => kids04_at x hx n u h1 h2) (u + 1) u (by omega) h1 (by omega)
theorem kids04_ok {W : World} (x : FB) (hx : FW x) : ACalls Try.prog W 32 [.pl (fbCells x), .v (.int .i64 (-1))] AHeap.none fun v _ => v = .sl false 4 ((kidsS x.l 0 (-1)).map nodeRow) :=
  kids04_step x hx x.l.length (fun u h1 h2 => kids04_at x hx _ u h1 h2) 0 (-1) (by rfl) (Nat.zero_le _) (by omega)
end Go.Proofs.Ytidicfdcjoggpaa.M
