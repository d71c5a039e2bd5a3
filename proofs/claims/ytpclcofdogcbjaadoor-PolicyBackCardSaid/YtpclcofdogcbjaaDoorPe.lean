/-
  What a policy lets, and whether it is stricter than another: walked.
-/
import Derived.Test.YtpclcofdogcbjaaDoorPd
namespace Go.Proofs.YtpclcofdogcbjaaDoor.M
open Go.RowKit
attribute [local go_sem] stk_nil stk_skip stk_ops stk_seq stk_block stk_scope stk_exit stk_ret stk_code_exit stk_code_ret stk_ops_exit stk_ops_ret stk_endb stk_endb_exit stk_endb_ret stk_endl stk_endl_exit stk_endl_ret stk_ops_nil stk_q stk_niq niqA flip srcOf stk_bsl side val bside bval uside uval cside cval bndS bndV intA isInt lside lval fside fval faside faval iside ival sxside sxval sizeA slside slval llside llval lenside lenval lenA tupA mmside mmval nkside boolA isBool ev_t ev_c tget put_s put_n lkside lkval menval stk_mk Option.isSome_some isMapA mapA keyA FZ_rfl FZ_any retOf true_and and_true if_true if_false decide_true decide_false Bool.not_true Bool.not_false Nat.zero_add List.map_cons List.map_nil Int.toNat_natCast strRows_len intRows_len List.getD_cons_zero List.getD_cons_succ List.length_cons List.length_nil List.forall_mem_cons List.not_mem_nil false_implies implies_true Int.ofNat_zero Int.natCast_add Int.natCast_one Int.ofNat_one Int.natCast_zero isB isU Bool.false_eq_true beq_self_eq_true Bool.false_beq Bool.true_beq Int.natCast_nonneg undef strRows_take strRows_drop Int.toNat_zero List.drop_zero Bool.and_true oneOr List.all_cons List.all_nil AVal.one Value.oneCell' Bool.true_and List.take_length stk_st' stside stH hp_self hp_hp isnside isnval
set_option linter.unusedVariables false
set_option linter.unusedSimpArgs false
def c_Elem : AFn := ⟨2, 9, [4],
  .seq (.ops [⟨(some 2), none, .e (.box 24 (.tmp 0))⟩,
      ⟨(some 4), none, .q (.mv (.const (.bool false)))⟩])
  (.seq (.ops [⟨(some 5), none, .q (.fad 1 1 (.tmp 2))⟩,
      ⟨(some 6), none, .q (.ld false 1 (.tmp 5))⟩,
      ⟨(some 7), none, .q (.mv (.tmp 1))⟩,
      ⟨(some 8), none, .e (.call 35 [(.tmp 6), (.tmp 7)])⟩,
      ⟨(some 4), none, .q (.mv (.tmp 8))⟩])
  (.ret)), []⟩
theorem k_Elem : compF Tryd.prog 17 = some c_Elem := by kernel_rfl
theorem elem_ok {W : World} (p : Pol) (F : Fits p) (x : Str) : ACalls Tryd.prog W 17 [.agg (polCells p), .v (.string x)] AHeap.none fun v _ => v = .v (.bool (decide (x ∈ p.elems))) := by
  have F1 := F.elems
  refine fn_run follows k_Elem rfl ?_
  simp only [c_Elem, aretC_nil, List.zipIdx_cons, List.zipIdx_nil, List.map_cons, List.map_nil, Nat.zero_add]
  (try simp +decide (implicitDefEqProofs := false) only [go_sem, ↓stk_g, ↓stk_c, ↓reduceIte])
  rw [stk_box]
  refine ⟨by rfl, fun b1 h1 => ?_⟩
  (try simp +decide (implicitDefEqProofs := false) only [go_sem, ↓stk_g, ↓stk_c, ↓reduceIte, polCells, lay, oneOr, List.take_succ_cons, List.take_zero, List.drop_succ_cons, List.drop_zero, List.nil_append, List.cons_append, Option.getD_some, Nat.reduceAdd, Nat.reduceLeDiff, List.append_nil, and_self, List.all_cons, List.all_nil])
  refine stk_pure (contains_ok p.elems x (by omega)) fun v hv => ?_
  subst hv
  (try simp +decide (implicitDefEqProofs := false) only [go_sem, ↓stk_g, ↓stk_c, ↓reduceIte])
  refine aret_pure (.inr rfl) ?_; simp +decide only [retOf, tget, if_true, if_false, ↓reduceIte, List.map_cons, List.map_nil]
def letsP (p : Pol) (e a : Str) : Bool := decide (e ∈ p.elems) && (decide ((⟨#[42, 46]⟩ ++ a : Str) ∈ p.attrs) || decide (((e ++ ⟨#[46]⟩ : Str) ++ a : Str) ∈ p.attrs))
def c_Attr : AFn := ⟨3, 26, [6],
  .seq (.ops [⟨(some 3), none, .e (.box 24 (.tmp 0))⟩,
      ⟨(some 6), none, .q (.mv (.const (.bool false)))⟩])
  (.seq (.ops [⟨(some 7), none, .q (.ld true 9 (.tmp 3))⟩,
      ⟨(some 8), none, .q (.mv (.tmp 1))⟩,
      ⟨(some 9), none, .e (.call 17 [(.tmp 7), (.tmp 8)])⟩,
      ⟨(some 10), none, .q (.mv (.tmp 9))⟩,
      ⟨(some 11), (some (10, true)), .q (.fad 2 1 (.tmp 3))⟩,
      ⟨(some 12), (some (10, true)), .q (.ld false 1 (.tmp 11))⟩,
      ⟨(some 13), (some (10, true)), .q (.mv (.tmp 2))⟩,
      ⟨(some 14), (some (10, true)), .q (.bin .add .num (.const (.string ⟨#[42, 46]⟩)) (.tmp 13))⟩,
      ⟨(some 15), (some (10, true)), .e (.call 35 [(.tmp 12), (.tmp 14)])⟩,
      ⟨(some 16), (some (10, true)), .q (.mv (.tmp 15))⟩,
      ⟨(some 17), (some (16, false)), .q (.fad 2 1 (.tmp 3))⟩,
      ⟨(some 18), (some (16, false)), .q (.ld false 1 (.tmp 17))⟩,
      ⟨(some 19), (some (16, false)), .q (.mv (.tmp 1))⟩,
      ⟨(some 20), (some (16, false)), .q (.bin .add .num (.tmp 19) (.const (.string ⟨#[46]⟩)))⟩,
      ⟨(some 21), (some (16, false)), .q (.mv (.tmp 2))⟩,
      ⟨(some 22), (some (16, false)), .q (.bin .add .num (.tmp 20) (.tmp 21))⟩,
      ⟨(some 23), (some (16, false)), .e (.call 35 [(.tmp 18), (.tmp 22)])⟩,
      ⟨(some 24), (some (10, true)), .q (.pick (.tmp 16) (.const (.bool true)) (.tmp 23))⟩,
      ⟨(some 25), none, .q (.pick (.tmp 10) (.tmp 24) (.const (.bool false)))⟩,
      ⟨(some 6), none, .q (.mv (.tmp 25))⟩])
  (.ret)), []⟩
theorem k_Attr : compF Tryd.prog 19 = some c_Attr := by kernel_rfl
set_option maxHeartbeats 2000000 in
theorem lets_ok {W : World} (p : Pol) (F : Fits p) (e a : Str) (he : e.size ≤ 1000000) (ha : a.size ≤ 1000000) : ACalls Tryd.prog W 19 [.agg (polCells p), .v (.string e), .v (.string a)] AHeap.none fun v _ => v = .v (.bool (letsP p e a)) := by
  have F2 := F.attrs
  have hp0 : polCells p = [.v (.int .i64 p.epoch), .sl false 1 (strRows p.elems), .sl false 1 (strRows p.attrs), .sl false 1 (strRows p.schemes), .sl false 1 (strRows p.classes), .sl false 1 (strRows p.props), .v (.int .i64 p.depth), .v (.int .i64 p.nodes), .v (.int .i64 p.bytes)] := rfl
  refine fn_run follows k_Attr rfl ?_
  simp only [c_Attr, aretC_nil, List.zipIdx_cons, List.zipIdx_nil, List.map_cons, List.map_nil, Nat.zero_add]
  (try simp +decide (implicitDefEqProofs := false) only [go_sem, ↓stk_g, ↓stk_c, ↓reduceIte])
  rw [stk_box]
  refine ⟨by rfl, fun b1 h1 => ?_⟩
  (try simp +decide (implicitDefEqProofs := false) only [go_sem, ↓stk_g, ↓stk_c, ↓reduceIte, polCells, lay, oneOr, List.take_succ_cons, List.take_zero, List.drop_succ_cons, List.drop_zero, List.nil_append, List.cons_append, Option.getD_some, Nat.reduceAdd, Nat.reduceLeDiff, List.append_nil, and_self, List.all_cons, List.all_nil])
  refine stk_pure (elem_ok p F e) fun v hv => ?_
  subst hv
  unfold letsP
  cases hm : decide (e ∈ p.elems)
  · (try simp +decide (implicitDefEqProofs := false) only [go_sem, ↓stk_g, ↓stk_c, ↓reduceIte])
    refine aret_pure (.inr rfl) ?_; simp +decide only [retOf, tget, if_true, if_false, ↓reduceIte, List.map_cons, List.map_nil]
    try rfl
  have s1 : (⟨#[42, 46]⟩ : ByteArray).size = 2 := rfl
  have s2 : (⟨#[46]⟩ : ByteArray).size = 1 := rfl
  have s3 : 2 + a.size ≤ 9223372036854775807 := by omega
  have s4 : e.size + 1 ≤ 9223372036854775807 := by omega
  have s5 : (e ++ ⟨#[46]⟩ : Str).size = e.size + 1 := by rw [ByteArray.size_append, s2]
  have s6 : e.size + 1 + a.size ≤ 9223372036854775807 := by omega
  (try simp +decide (implicitDefEqProofs := false) only [go_sem, ↓stk_g, ↓stk_c, ↓reduceIte, s1, s3, lay, oneOr, List.take_succ_cons, List.take_zero, List.drop_succ_cons, List.drop_zero, List.nil_append, List.cons_append, Option.getD_some, Nat.reduceAdd, Nat.reduceLeDiff, List.append_nil, and_self, List.all_cons, List.all_nil])
  refine stk_pure (contains_ok p.attrs _ (by omega)) fun v hv => ?_
  subst hv
  cases hm2 : decide ((⟨#[42, 46]⟩ ++ a : Str) ∈ p.attrs)
  · have hm3 : decide ((({ data := #[42, 46] } : ByteArray) ++ a) ∈ p.attrs) = false := hm2
    (try simp +decide (implicitDefEqProofs := false) only [go_sem, ↓stk_g, ↓stk_c, ↓reduceIte, s2, s4, s5, s6, hm3, lay, oneOr, List.take_succ_cons, List.take_zero, List.drop_succ_cons, List.drop_zero, List.nil_append, List.cons_append, Option.getD_some, Nat.reduceAdd, Nat.reduceLeDiff, List.append_nil, and_self, List.all_cons, List.all_nil])
    refine stk_pure (contains_ok p.attrs _ (by omega)) fun v hv => ?_
    subst hv
    (try simp +decide (implicitDefEqProofs := false) only [go_sem, ↓stk_g, ↓stk_c, ↓reduceIte])
    refine aret_pure (.inr rfl) ?_; simp +decide only [retOf, tget, if_true, if_false, ↓reduceIte, List.map_cons, List.map_nil]
    try rfl
  · have hm3 : decide ((({ data := #[42, 46] } : ByteArray) ++ a) ∈ p.attrs) = true := hm2
    (try simp +decide (implicitDefEqProofs := false) only [go_sem, ↓stk_g, ↓stk_c, ↓reduceIte, hm3])
    refine aret_pure (.inr rfl) ?_; simp +decide only [retOf, tget, if_true, if_false, ↓reduceIte, List.map_cons, List.map_nil]
    try rfl
def allIn (a b : List Str) : Bool := a.all fun s => decide (s ∈ b)
def c_all : AFn := ⟨2, 18, [4],
  .seq (.ops [⟨(some 4), none, .q (.mv (.const (.bool false)))⟩])
  (.seq (.seq (.ops [⟨(some 7), none, .q (.mv (.tmp 0))⟩,
      ⟨(some 8), none, .q (.len false (.tmp 7))⟩,
      ⟨(some 9), none, .q (.mv (.const (.int .i64 0)))⟩])
  (.block 0 (.loop (.seq (.ops [⟨(some 10), none, .q (.bin .lss .num (.tmp 9) (.tmp 8))⟩])
      (.seq (.cond (.tmp 10)
        (.skip)
        (.exit 0))
      (.seq (.block 1 (.seq (.ops [⟨(some 11), none, .q (.ixa 1 (.tmp 7) (.tmp 9))⟩,
            ⟨(some 12), none, .q (.ld false 1 (.tmp 11))⟩,
            ⟨(some 6), none, .q (.mv (.tmp 12))⟩])
        (.seq (.ops [⟨(some 13), none, .q (.mv (.tmp 1))⟩,
            ⟨(some 14), none, .q (.mv (.tmp 6))⟩,
            ⟨(some 15), none, .e (.call 35 [(.tmp 13), (.tmp 14)])⟩,
            ⟨(some 16), none, .q (.un .not (.tmp 15))⟩])
        (.cond (.tmp 16)
          (.seq (.ops [⟨(some 4), none, .q (.mv (.const (.bool false)))⟩])
          (.ret))
          (.skip)))))
      (.ops [⟨(some 17), none, .q (.bin .add .num (.tmp 9) (.const (.int .i64 1)))⟩,
          ⟨(some 9), none, .q (.mv (.tmp 17))⟩])))))))
  (.seq (.ops [⟨(some 4), none, .q (.mv (.const (.bool true)))⟩])
  (.ret))), []⟩
theorem k_all : compF Tryd.prog 49 = some c_all := by kernel_rfl
set_option maxHeartbeats 2000000 in
theorem all_ok {W : World} {f g : Bool} (a b : List Str) (ha : a.length ≤ 1000000) (hb : b.length ≤ 1000000) : ACalls Tryd.prog W 49 [.sl f 1 (strRows a), .sl g 1 (strRows b)] AHeap.none fun v _ => v = .v (.bool (allIn a b)) := by
  refine fn_run follows k_all rfl ?_
  simp only [c_all, aretC_nil, List.zipIdx_cons, List.zipIdx_nil, List.map_cons, List.map_nil, Nat.zero_add]
  (try simp +decide (implicitDefEqProofs := false) only [go_sem, ↓stk_g, ↓stk_c, ↓reduceIte])
  refine stk_up (α := Unit) a.length (fun i _ => ⟨[(9, .v (.int .i64 i)), (8, .v (.int .i64 a.length)), (7, .sl f 1 (strRows a)), (1, .sl g 1 (strRows b))], AHeap.none⟩) (fun i _ => ∀ j, j < i → a.getD j ByteArray.empty ∈ b) () (Weak.list _ (Sub.refl _) (by (try simp +decide (implicitDefEqProofs := false) only [go_sem, ↓stk_g, ↓stk_c, ↓reduceIte]))) (fun j h => by omega) ?_
  rintro i ⟨⟩ hi hJ
  by_cases hlt : i < a.length
  · have g1 : (i : Int) < (a.length : Int) := by omega
    have hw := wrap_in (n := i + 1) (by omega) (by omega)
    have hg := strRows_get hlt
    (try simp +decide (implicitDefEqProofs := false) only [go_sem, ↓stk_g, ↓stk_c, ↓reduceIte, g1, hlt, hg])
    refine stk_pure (contains_ok b _ (by omega)) fun v hv => ?_
    subst hv
    by_cases hm : a.getD i ByteArray.empty ∈ b
    · rw [decide_eq_true hm]
      (try simp +decide (implicitDefEqProofs := false) only [go_sem, ↓stk_g, ↓stk_c, ↓reduceIte, hw])
      refine ⟨(), Weak.list _ (Sub.refl _) (by (try simp +decide (implicitDefEqProofs := false) only [go_sem, ↓stk_g, ↓stk_c, ↓reduceIte])), fun j hj => ?_⟩
      by_cases e : j = i
      · rw [e]; exact hm
      · exact hJ j (by omega)
    · rw [decide_eq_false hm]
      (try simp +decide (implicitDefEqProofs := false) only [go_sem, ↓stk_g, ↓stk_c, ↓reduceIte])
      refine aret_pure (.inr rfl) ?_; simp +decide only [retOf, tget, if_true, if_false, ↓reduceIte, List.map_cons, List.map_nil]
      have : allIn a b = false := by
        unfold allIn
        rw [List.all_eq_false]
        exact ⟨a[i], List.getElem_mem hlt, by have e : a.getD i ByteArray.empty = a[i] := by simp [hlt]
                                              rw [← e]; simpa using hm⟩
      rw [this]
  · have g1 : ¬ (i : Int) < (a.length : Int) := by omega
    obtain rfl : i = a.length := by omega
    (try simp +decide (implicitDefEqProofs := false) only [go_sem, ↓stk_g, ↓stk_c, ↓reduceIte, g1])
    refine aret_pure (.inr rfl) ?_; simp +decide only [retOf, tget, if_true, if_false, ↓reduceIte, List.map_cons, List.map_nil]
    have : allIn a b = true := by
      unfold allIn
      rw [List.all_eq_true]
      intro x hx
      obtain ⟨j, hj, rfl⟩ := List.getElem_of_mem hx
      have := hJ j hj
      simpa [hj] using this
    rw [this]
def ixS (s : Str) : Int := Lib.indexByte s.data.toList (46 : Int).toNat.toUInt8
theorem ixS_le (s : Str) (h : 0 ≤ ixS s) : ixS s < s.size := by
  obtain ⟨o, ho⟩ : ∃ o : Nat, ixS s = o := ⟨(ixS s).toNat, by omega⟩
  have h2 := (Lib.indexByte_some (show Lib.indexByte s.data.toList (46 : Int).toNat.toUInt8 = (o : Int) from ho)).1
  obtain ⟨h3, _⟩ := List.getElem?_eq_some_iff.1 h2
  have h4 : s.data.toList.length = s.size := by rw [Array.length_toList]; rfl
  omega
def anyS (s : Str) : Str := if 0 ≤ ixS s then (⟨#[42]⟩ ++ cutS s (ixS s) s.size : Str) else ⟨#[42]⟩
def attrIn (q : Pol) (s : Str) : Bool := decide (s ∈ q.attrs) || decide (anyS s ∈ q.attrs)
def strictP (p q : Pol) : Bool :=
  p.attrs.all (attrIn q) && ((decide (p.depth = min p.depth q.depth) && (decide (p.nodes = min p.nodes q.nodes) && decide (p.bytes = min p.bytes q.bytes))) &&
    (allIn p.elems q.elems && (allIn p.schemes q.schemes && (allIn p.classes q.classes && allIn p.props q.props))))
theorem cutS_size (s : Str) (a b : Int) : (cutS s a b).size ≤ s.size := by
  unfold cutS
  rw [ByteArray.size_extract]; omega
def c_Stricter : AFn := ⟨2, 89, [4],
  .seq (.ops [⟨(some 2), none, .e (.box 24 (.tmp 0))⟩,
      ⟨(some 3), none, .e (.box 24 (.tmp 1))⟩,
      ⟨(some 4), none, .q (.mv (.const (.bool false)))⟩])
  (.seq (.seq (.ops [⟨(some 10), none, .q (.fad 2 1 (.tmp 2))⟩,
      ⟨(some 11), none, .q (.ld false 1 (.tmp 10))⟩,
      ⟨(some 12), none, .q (.len false (.tmp 11))⟩,
      ⟨(some 13), none, .q (.mv (.const (.int .i64 0)))⟩])
  (.block 0 (.loop (.seq (.ops [⟨(some 14), none, .q (.bin .lss .num (.tmp 13) (.tmp 12))⟩])
      (.seq (.cond (.tmp 14)
        (.skip)
        (.exit 0))
      (.seq (.block 1 (.seq (.ops [⟨(some 15), none, .q (.ixa 1 (.tmp 11) (.tmp 13))⟩,
            ⟨(some 16), none, .q (.ld false 1 (.tmp 15))⟩,
            ⟨(some 6), none, .q (.mv (.tmp 16))⟩])
        (.seq (.ops [⟨(some 7), none, .q (.mv (.const (.string ⟨#[42]⟩)))⟩])
        (.seq (.seq (.ops [⟨(some 17), none, .q (.mv (.tmp 6))⟩,
            ⟨(some 18), none, .e (.call 48 [(.tmp 17), (.const (.int .u8 46))])⟩,
            ⟨(some 8), none, .q (.mv (.tmp 18))⟩])
        (.seq (.ops [⟨(some 19), none, .q (.mv (.tmp 8))⟩,
            ⟨(some 20), none, .q (.bin .geq .num (.tmp 19) (.const (.int .i64 0)))⟩])
        (.cond (.tmp 20)
          (.ops [⟨(some 21), none, .q (.mv (.tmp 6))⟩,
              ⟨(some 22), none, .q (.mv (.tmp 8))⟩,
              ⟨(some 23), none, .q (.ssl (.tmp 21) (some (.tmp 22)) none)⟩,
              ⟨(some 24), none, .q (.bin .add .num (.const (.string ⟨#[42]⟩)) (.tmp 23))⟩,
              ⟨(some 7), none, .q (.mv (.tmp 24))⟩])
          (.skip))))
        (.seq (.ops [⟨(some 25), none, .q (.fad 2 1 (.tmp 3))⟩,
            ⟨(some 26), none, .q (.ld false 1 (.tmp 25))⟩,
            ⟨(some 27), none, .q (.mv (.tmp 6))⟩,
            ⟨(some 28), none, .e (.call 35 [(.tmp 26), (.tmp 27)])⟩,
            ⟨(some 29), none, .q (.un .not (.tmp 28))⟩,
            ⟨(some 30), none, .q (.mv (.tmp 29))⟩,
            ⟨(some 31), (some (30, true)), .q (.fad 2 1 (.tmp 3))⟩,
            ⟨(some 32), (some (30, true)), .q (.ld false 1 (.tmp 31))⟩,
            ⟨(some 33), (some (30, true)), .q (.mv (.tmp 7))⟩,
            ⟨(some 34), (some (30, true)), .e (.call 35 [(.tmp 32), (.tmp 33)])⟩,
            ⟨(some 35), (some (30, true)), .q (.un .not (.tmp 34))⟩,
            ⟨(some 36), none, .q (.pick (.tmp 30) (.tmp 35) (.const (.bool false)))⟩])
        (.cond (.tmp 36)
          (.seq (.ops [⟨(some 4), none, .q (.mv (.const (.bool false)))⟩])
          (.ret))
          (.skip)))))))
      (.ops [⟨(some 37), none, .q (.bin .add .num (.tmp 13) (.const (.int .i64 1)))⟩,
          ⟨(some 13), none, .q (.mv (.tmp 37))⟩])))))))
  (.seq (.ops [⟨(some 38), none, .q (.fad 6 1 (.tmp 2))⟩,
      ⟨(some 39), none, .q (.ld false 1 (.tmp 38))⟩,
      ⟨(some 40), none, .q (.fad 7 1 (.tmp 2))⟩,
      ⟨(some 41), none, .q (.ld false 1 (.tmp 40))⟩,
      ⟨(some 42), none, .q (.fad 8 1 (.tmp 2))⟩,
      ⟨(some 43), none, .q (.ld false 1 (.tmp 42))⟩,
      ⟨(some 44), none, .q (.bld [(.int .i64 0), (.int .i64 0), (.int .i64 0)] [(0, 1, (.tmp 39)), (1, 1, (.tmp 41)), (2, 1, (.tmp 43))])⟩,
      ⟨(some 9), none, .e (.alloc 59 [(.int .i64 0), (.int .i64 0), (.int .i64 0)])⟩,
      ⟨none, none, .e (.st 3 (.tmp 9) (.tmp 44))⟩])
  (.seq (.seq (.ops [⟨(some 45), none, .q (.ld true 3 (.tmp 9))⟩,
      ⟨(some 46), none, .q (.fad 0 1 (.tmp 9))⟩,
      ⟨(some 47), none, .q (.ld false 1 (.tmp 46))⟩,
      ⟨(some 48), none, .q (.fad 6 1 (.tmp 3))⟩,
      ⟨(some 49), none, .q (.ld false 1 (.tmp 48))⟩,
      ⟨(some 50), none, .q (.mm false (.tmp 47) (.tmp 49))⟩,
      ⟨(some 51), none, .q (.fad 1 1 (.tmp 9))⟩,
      ⟨(some 52), none, .q (.ld false 1 (.tmp 51))⟩,
      ⟨(some 53), none, .q (.fad 7 1 (.tmp 3))⟩,
      ⟨(some 54), none, .q (.ld false 1 (.tmp 53))⟩,
      ⟨(some 55), none, .q (.mm false (.tmp 52) (.tmp 54))⟩,
      ⟨(some 56), none, .q (.fad 2 1 (.tmp 9))⟩,
      ⟨(some 57), none, .q (.ld false 1 (.tmp 56))⟩,
      ⟨(some 58), none, .q (.fad 8 1 (.tmp 3))⟩,
      ⟨(some 59), none, .q (.ld false 1 (.tmp 58))⟩,
      ⟨(some 60), none, .q (.mm false (.tmp 57) (.tmp 59))⟩,
      ⟨(some 61), none, .q (.bld [(.int .i64 0), (.int .i64 0), (.int .i64 0)] [(0, 1, (.tmp 50)), (1, 1, (.tmp 55)), (2, 1, (.tmp 60))])⟩,
      ⟨(some 62), none, .q (.bin .neq (.struct [0, 0, 0]) (.tmp 45) (.tmp 61))⟩])
  (.cond (.tmp 62)
    (.seq (.ops [⟨(some 4), none, .q (.mv (.const (.bool false)))⟩])
    (.ret))
    (.skip)))
  (.seq (.ops [⟨(some 63), none, .q (.fad 1 1 (.tmp 2))⟩,
      ⟨(some 64), none, .q (.ld false 1 (.tmp 63))⟩,
      ⟨(some 65), none, .q (.fad 1 1 (.tmp 3))⟩,
      ⟨(some 66), none, .q (.ld false 1 (.tmp 65))⟩,
      ⟨(some 67), none, .e (.call 49 [(.tmp 64), (.tmp 66)])⟩,
      ⟨(some 68), none, .q (.mv (.tmp 67))⟩,
      ⟨(some 69), (some (68, true)), .q (.fad 3 1 (.tmp 2))⟩,
      ⟨(some 70), (some (68, true)), .q (.ld false 1 (.tmp 69))⟩,
      ⟨(some 71), (some (68, true)), .q (.fad 3 1 (.tmp 3))⟩,
      ⟨(some 72), (some (68, true)), .q (.ld false 1 (.tmp 71))⟩,
      ⟨(some 73), (some (68, true)), .e (.call 49 [(.tmp 70), (.tmp 72)])⟩,
      ⟨(some 74), none, .q (.pick (.tmp 68) (.tmp 73) (.const (.bool false)))⟩,
      ⟨(some 75), none, .q (.mv (.tmp 74))⟩,
      ⟨(some 76), (some (75, true)), .q (.fad 4 1 (.tmp 2))⟩,
      ⟨(some 77), (some (75, true)), .q (.ld false 1 (.tmp 76))⟩,
      ⟨(some 78), (some (75, true)), .q (.fad 4 1 (.tmp 3))⟩,
      ⟨(some 79), (some (75, true)), .q (.ld false 1 (.tmp 78))⟩,
      ⟨(some 80), (some (75, true)), .e (.call 49 [(.tmp 77), (.tmp 79)])⟩,
      ⟨(some 81), none, .q (.pick (.tmp 75) (.tmp 80) (.const (.bool false)))⟩,
      ⟨(some 82), none, .q (.mv (.tmp 81))⟩,
      ⟨(some 83), (some (82, true)), .q (.fad 5 1 (.tmp 2))⟩,
      ⟨(some 84), (some (82, true)), .q (.ld false 1 (.tmp 83))⟩,
      ⟨(some 85), (some (82, true)), .q (.fad 5 1 (.tmp 3))⟩,
      ⟨(some 86), (some (82, true)), .q (.ld false 1 (.tmp 85))⟩,
      ⟨(some 87), (some (82, true)), .e (.call 49 [(.tmp 84), (.tmp 86)])⟩,
      ⟨(some 88), none, .q (.pick (.tmp 82) (.tmp 87) (.const (.bool false)))⟩,
      ⟨(some 4), none, .q (.mv (.tmp 88))⟩])
  (.ret))))), []⟩
theorem k_Stricter : compF Tryd.prog 21 = some c_Stricter := by kernel_rfl
set_option maxHeartbeats 4000000 in
theorem strict_ok {W : World} (p q : Pol) (F : Fits p) (G : Fits q) : ACalls Tryd.prog W 21 [.agg (polCells p), .agg (polCells q)] AHeap.none fun v _ => v = .v (.bool (strictP p q)) := by
  have F1 := F.elems
  have F2 := F.attrs
  have F3 := F.schemes
  have F4 := F.classes
  have F5 := F.props
  have G1 := G.elems
  have G2 := G.attrs
  have G3 := G.schemes
  have G4 := G.classes
  have G5 := G.props
  have Fs := fun s (hs : s ∈ p.attrs) => F.all p.attrs (by simp) s hs
  refine fn_run follows k_Stricter rfl ?_
  simp only [c_Stricter, aretC_nil, List.zipIdx_cons, List.zipIdx_nil, List.map_cons, List.map_nil, Nat.zero_add]
  (try simp +decide (implicitDefEqProofs := false) only [go_sem, ↓stk_g, ↓stk_c, ↓reduceIte])
  rw [stk_box]
  refine ⟨by rfl, fun b1 h1 => ?_⟩
  (try simp +decide (implicitDefEqProofs := false) only [go_sem, ↓stk_g, ↓stk_c, ↓reduceIte])
  rw [stk_box]
  refine ⟨by rfl, fun b2 h2 => ?_⟩
  have n2 := new_ne (hp_self _ _ _) h2
  have n2' := n2.symm
  (try simp +decide (implicitDefEqProofs := false) only [go_sem, ↓stk_g, ↓stk_c, ↓reduceIte, polCells, hp_ne, n2, n2', ne_eq, not_false_eq_true, lay, oneOr, List.take_succ_cons, List.take_zero, List.drop_succ_cons, List.drop_zero, List.nil_append, List.cons_append, Option.getD_some, Nat.reduceAdd, Nat.reduceLeDiff, List.append_nil, and_self, List.all_cons, List.all_nil])
  refine stk_up (α := Unit) p.attrs.length (fun i _ => ⟨[(13, .v (.int .i64 i)), (12, .v (.int .i64 p.attrs.length)), (11, .sl false 1 (strRows p.attrs)), (2, .pl (polCells p)), (3, .pl (polCells q))], AHeap.none⟩) (fun i _ => ∀ j, j < i → attrIn q (p.attrs.getD j ByteArray.empty) = true) () (Weak.list _ (Sub.none _) ?_) (fun j h => by omega) ?_
  · (try simp +decide (implicitDefEqProofs := false) only [go_sem, ↓stk_g, ↓stk_c, ↓reduceIte])
    exact ⟨FZ.cellsR ((hp_ne _ _ n2').trans (hp_self _ _ _)) rfl, FZ.cellsR (hp_self _ _ _) rfl⟩
  rintro i ⟨⟩ hi hJ
  by_cases hlt : i < p.attrs.length
  · have g1 : (i : Int) < (p.attrs.length : Int) := by omega
    have hw := wrap_in (n := i + 1) (by omega) (by omega)
    have hg := strRows_get hlt
    have hget : p.attrs.getD i ByteArray.empty = p.attrs[i] := by simp [hlt]
    have hsz := Fs (p.attrs.getD i ByteArray.empty) (by rw [hget]; exact List.getElem_mem _)
    have hno : attrIn q (p.attrs.getD i ByteArray.empty) = false → strictP p q = false := fun h => by
      have : p.attrs.all (attrIn q) = false := by
        rw [List.all_eq_false]
        exact ⟨p.attrs[i], List.getElem_mem hlt, by rw [← hget, h]; simp⟩
      unfold strictP
      rw [this]; rfl
    have hyes : attrIn q (p.attrs.getD i ByteArray.empty) = true → ∀ j, j < i + 1 → attrIn q (p.attrs.getD j ByteArray.empty) = true := fun h j hj => by
      by_cases e : j = i
      · rw [e]; exact h
      · exact hJ j (by omega)
    have hdef : attrIn q (p.attrs.getD i ByteArray.empty) = (decide (p.attrs.getD i ByteArray.empty ∈ q.attrs) || decide (anyS (p.attrs.getD i ByteArray.empty) ∈ q.attrs)) := rfl
    have hany : anyS (p.attrs.getD i ByteArray.empty) = if 0 ≤ ixS (p.attrs.getD i ByteArray.empty) then (⟨#[42]⟩ ++ cutS (p.attrs.getD i ByteArray.empty) (ixS (p.attrs.getD i ByteArray.empty)) (p.attrs.getD i ByteArray.empty).size : Str) else ⟨#[42]⟩ := rfl
    generalize attrIn q (p.attrs.getD i ByteArray.empty) = ok at hno hyes hdef
    generalize anyS (p.attrs.getD i ByteArray.empty) = any at hdef hany
    (try simp +decide (implicitDefEqProofs := false) only [go_sem, ↓stk_g, ↓stk_c, ↓reduceIte, g1, hlt, hg])
    refine stk_pure (indexByte_ok _ _) fun v hv => ?_
    subst hv
    have hixl := ixS_le (p.attrs.getD i ByteArray.empty)
    have hcz := cutS_size (p.attrs.getD i ByteArray.empty) (ixS (p.attrs.getD i ByteArray.empty)) (p.attrs.getD i ByteArray.empty).size
    rw [show Lib.indexByte (p.attrs.getD i ByteArray.empty).data.toList (46 : Int).toNat.toUInt8 = ixS (p.attrs.getD i ByteArray.empty) from rfl]
    generalize p.attrs.getD i ByteArray.empty = s at hdef hany hsz hixl hcz hg ⊢
    generalize ixS s = ix at hany hixl hcz ⊢
    have s1 : (⟨#[42]⟩ : ByteArray).size = 1 := rfl
    have fin : (if 0 ≤ ix then (⟨#[42]⟩ ++ cutS s ix s.size : Str) else ⟨#[42]⟩) = any := hany.symm
    clear hany
    by_cases hix : 0 ≤ ix
    · rw [if_pos hix] at fin
      have k1 := hixl hix
      have k2 : ix ≤ (s.size : Int) := by omega
      have k3 : 1 + (cutS s ix s.size).size ≤ 9223372036854775807 := by omega
      have k4 : (⟨#[42]⟩ ++ cutS s ix s.size : ByteArray) = any := fin
      have k5 : (s.size : Int) ≤ (s.size : Int) := Int.le_refl _
      (try simp +decide (implicitDefEqProofs := false) only [go_sem, ↓stk_g, ↓stk_c, ↓reduceIte, hix, k2, s1, k3, k4, k5, polCells, lay, oneOr, List.take_succ_cons, List.take_zero, List.drop_succ_cons, List.drop_zero, List.nil_append, List.cons_append, Option.getD_some, Nat.reduceAdd, Nat.reduceLeDiff, List.append_nil, and_self, List.all_cons, List.all_nil])
      refine stk_pure (contains_ok q.attrs s (by omega)) fun v hv => ?_
      subst hv
      cases hm : decide (s ∈ q.attrs)
      · (try simp +decide (implicitDefEqProofs := false) only [go_sem, ↓stk_g, ↓stk_c, ↓reduceIte, lay, oneOr, List.take_succ_cons, List.take_zero, List.drop_succ_cons, List.drop_zero, List.nil_append, List.cons_append, Option.getD_some, Nat.reduceAdd, Nat.reduceLeDiff, List.append_nil, and_self, List.all_cons, List.all_nil])
        refine stk_pure (contains_ok q.attrs any (by omega)) fun v hv => ?_
        subst hv
        cases hm2 : decide (any ∈ q.attrs)
        · (try simp +decide (implicitDefEqProofs := false) only [go_sem, ↓stk_g, ↓stk_c, ↓reduceIte])
          refine aret_pure (.inr rfl) ?_; simp +decide only [retOf, tget, if_true, if_false, ↓reduceIte, List.map_cons, List.map_nil]
          rw [hno (by rw [hdef, hm, hm2]; rfl)]
        · (try simp +decide (implicitDefEqProofs := false) only [go_sem, ↓stk_g, ↓stk_c, ↓reduceIte, hw])
          refine ⟨(), Weak.list _ (Sub.refl _) (by (try simp +decide (implicitDefEqProofs := false) only [go_sem, ↓stk_g, ↓stk_c, ↓reduceIte])), hyes (by rw [hdef, hm, hm2]; rfl)⟩
      · (try simp +decide (implicitDefEqProofs := false) only [go_sem, ↓stk_g, ↓stk_c, ↓reduceIte, hw])
        refine ⟨(), Weak.list _ (Sub.refl _) (by (try simp +decide (implicitDefEqProofs := false) only [go_sem, ↓stk_g, ↓stk_c, ↓reduceIte])), hyes (by rw [hdef, hm]; rfl)⟩
    · rw [if_neg hix] at fin
      subst fin
      (try simp +decide (implicitDefEqProofs := false) only [go_sem, ↓stk_g, ↓stk_c, ↓reduceIte, hix, polCells, lay, oneOr, List.take_succ_cons, List.take_zero, List.drop_succ_cons, List.drop_zero, List.nil_append, List.cons_append, Option.getD_some, Nat.reduceAdd, Nat.reduceLeDiff, List.append_nil, and_self, List.all_cons, List.all_nil])
      refine stk_pure (contains_ok q.attrs s (by omega)) fun v hv => ?_
      subst hv
      cases hm : decide (s ∈ q.attrs)
      · (try simp +decide (implicitDefEqProofs := false) only [go_sem, ↓stk_g, ↓stk_c, ↓reduceIte, lay, oneOr, List.take_succ_cons, List.take_zero, List.drop_succ_cons, List.drop_zero, List.nil_append, List.cons_append, Option.getD_some, Nat.reduceAdd, Nat.reduceLeDiff, List.append_nil, and_self, List.all_cons, List.all_nil])
        refine stk_pure (contains_ok q.attrs ⟨#[42]⟩ (by omega)) fun v hv => ?_
        subst hv
        cases hm2 : decide ((⟨#[42]⟩ : Str) ∈ q.attrs)
        · (try simp +decide (implicitDefEqProofs := false) only [go_sem, ↓stk_g, ↓stk_c, ↓reduceIte])
          refine aret_pure (.inr rfl) ?_; simp +decide only [retOf, tget, if_true, if_false, ↓reduceIte, List.map_cons, List.map_nil]
          rw [hno (by rw [hdef, hm, hm2]; rfl)]
        · (try simp +decide (implicitDefEqProofs := false) only [go_sem, ↓stk_g, ↓stk_c, ↓reduceIte, hw])
          refine ⟨(), Weak.list _ (Sub.refl _) (by (try simp +decide (implicitDefEqProofs := false) only [go_sem, ↓stk_g, ↓stk_c, ↓reduceIte])), hyes (by rw [hdef, hm, hm2]; rfl)⟩
      · (try simp +decide (implicitDefEqProofs := false) only [go_sem, ↓stk_g, ↓stk_c, ↓reduceIte, hw])
        refine ⟨(), Weak.list _ (Sub.refl _) (by (try simp +decide (implicitDefEqProofs := false) only [go_sem, ↓stk_g, ↓stk_c, ↓reduceIte])), hyes (by rw [hdef, hm]; rfl)⟩
  · have g1 : ¬ (i : Int) < (p.attrs.length : Int) := by omega
    obtain rfl : i = p.attrs.length := by omega
    have hall : p.attrs.all (attrIn q) = true := by
      rw [List.all_eq_true]
      intro x hx
      obtain ⟨j, hj, rfl⟩ := List.getElem_of_mem hx
      have := hJ j hj
      simpa [hj] using this
    unfold strictP
    rw [hall, Bool.true_and]
    clear hJ hall
    (try simp +decide (implicitDefEqProofs := false) only [go_sem, ↓stk_g, ↓stk_c, ↓reduceIte, g1, polCells, lay, oneOr, List.take_succ_cons, List.take_zero, List.drop_succ_cons, List.drop_zero, List.nil_append, List.cons_append, Option.getD_some, Nat.reduceAdd, Nat.reduceLeDiff, List.append_nil, and_self, List.all_cons, List.all_nil])
    rw [stk_alloc]
    intro b3 h3
    cases hc : (decide (p.depth = min p.depth q.depth) && (decide (p.nodes = min p.nodes q.nodes) && decide (p.bytes = min p.bytes q.bytes)))
    · (try simp +decide (implicitDefEqProofs := false) only [go_sem, ↓stk_g, ↓stk_c, ↓reduceIte, hc, steq3, Option.getD_some, lay, oneOr, List.take_succ_cons, List.take_zero, List.drop_succ_cons, List.drop_zero, List.nil_append, List.cons_append, Option.getD_some, Nat.reduceAdd, Nat.reduceLeDiff, List.append_nil, and_self, List.all_cons, List.all_nil])
      refine aret_pure (.inr rfl) ?_; simp +decide only [retOf, tget, if_true, if_false, ↓reduceIte, List.map_cons, List.map_nil]
      try rfl
    (try simp +decide (implicitDefEqProofs := false) only [go_sem, ↓stk_g, ↓stk_c, ↓reduceIte, hc, steq3, Option.getD_some, lay, oneOr, List.take_succ_cons, List.take_zero, List.drop_succ_cons, List.drop_zero, List.nil_append, List.cons_append, Option.getD_some, Nat.reduceAdd, Nat.reduceLeDiff, List.append_nil, and_self, List.all_cons, List.all_nil])
    refine stk_pure (all_ok p.elems q.elems (by omega) (by omega)) fun v hv => ?_
    subst hv
    cases allIn p.elems q.elems
    · (try simp +decide (implicitDefEqProofs := false) only [go_sem, ↓stk_g, ↓stk_c, ↓reduceIte])
      refine aret_pure (.inr rfl) ?_; simp +decide only [retOf, tget, if_true, if_false, ↓reduceIte, List.map_cons, List.map_nil]
      try rfl
    (try simp +decide (implicitDefEqProofs := false) only [go_sem, ↓stk_g, ↓stk_c, ↓reduceIte, lay, oneOr, List.take_succ_cons, List.take_zero, List.drop_succ_cons, List.drop_zero, List.nil_append, List.cons_append, Option.getD_some, Nat.reduceAdd, Nat.reduceLeDiff, List.append_nil, and_self, List.all_cons, List.all_nil])
    refine stk_pure (all_ok p.schemes q.schemes (by omega) (by omega)) fun v hv => ?_
    subst hv
    cases allIn p.schemes q.schemes
    · (try simp +decide (implicitDefEqProofs := false) only [go_sem, ↓stk_g, ↓stk_c, ↓reduceIte])
      refine aret_pure (.inr rfl) ?_; simp +decide only [retOf, tget, if_true, if_false, ↓reduceIte, List.map_cons, List.map_nil]
      try rfl
    (try simp +decide (implicitDefEqProofs := false) only [go_sem, ↓stk_g, ↓stk_c, ↓reduceIte, lay, oneOr, List.take_succ_cons, List.take_zero, List.drop_succ_cons, List.drop_zero, List.nil_append, List.cons_append, Option.getD_some, Nat.reduceAdd, Nat.reduceLeDiff, List.append_nil, and_self, List.all_cons, List.all_nil])
    refine stk_pure (all_ok p.classes q.classes (by omega) (by omega)) fun v hv => ?_
    subst hv
    cases allIn p.classes q.classes
    · (try simp +decide (implicitDefEqProofs := false) only [go_sem, ↓stk_g, ↓stk_c, ↓reduceIte])
      refine aret_pure (.inr rfl) ?_; simp +decide only [retOf, tget, if_true, if_false, ↓reduceIte, List.map_cons, List.map_nil]
      try rfl
    (try simp +decide (implicitDefEqProofs := false) only [go_sem, ↓stk_g, ↓stk_c, ↓reduceIte, lay, oneOr, List.take_succ_cons, List.take_zero, List.drop_succ_cons, List.drop_zero, List.nil_append, List.cons_append, Option.getD_some, Nat.reduceAdd, Nat.reduceLeDiff, List.append_nil, and_self, List.all_cons, List.all_nil])
    refine stk_pure (all_ok p.props q.props (by omega) (by omega)) fun v hv => ?_
    subst hv
    (try simp +decide (implicitDefEqProofs := false) only [go_sem, ↓stk_g, ↓stk_c, ↓reduceIte])
    refine aret_pure (.inr rfl) ?_; simp +decide only [retOf, tget, if_true, if_false, ↓reduceIte, List.map_cons, List.map_nil]
    try rfl
end Go.Proofs.YtpclcofdogcbjaaDoor.M
