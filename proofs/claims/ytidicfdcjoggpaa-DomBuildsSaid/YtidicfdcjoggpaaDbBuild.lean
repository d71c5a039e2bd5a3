/-
  The document's Build: walked.
-/
import Derived.Test.YtidicfdcjoggpaaDbTake
namespace Go.Proofs.Ytidicfdcjoggpaa.M
open Go.RowKit
attribute [local go_sem] stk_nil stk_skip stk_ops stk_seq stk_block stk_scope stk_exit stk_ret stk_code_exit stk_code_ret stk_ops_exit stk_ops_ret stk_endb stk_endb_exit stk_endb_ret stk_endl stk_endl_exit stk_endl_ret stk_ops_nil stk_q stk_niq niqA flip srcOf stk_bsl side val bside bval uside uval cside cval bndS bndV intA isInt lside lval fside fval faside faval iside ival sxside sxval sizeA slside slval llside llval lenside lenval lenA tupA mmside mmval nkside boolA isBool ev_t ev_c tget put_s put_n lkside lkval menval stk_mk Option.isSome_some isMapA mapA keyA FZ_rfl FZ_any retOf true_and and_true if_true if_false decide_true decide_false Bool.not_true Bool.not_false Nat.zero_add List.map_cons List.map_nil Int.toNat_natCast strRows_len intRows_len List.getD_cons_zero List.getD_cons_succ List.length_cons List.length_nil List.forall_mem_cons List.not_mem_nil false_implies implies_true Int.ofNat_zero Int.natCast_add Int.natCast_one Int.ofNat_one Int.natCast_zero isB isU Bool.false_eq_true beq_self_eq_true Bool.false_beq Bool.true_beq Int.natCast_nonneg undef strRows_take strRows_drop Int.toNat_zero List.drop_zero Bool.and_true oneOr List.all_cons List.all_nil AVal.one Value.oneCell' Bool.true_and List.take_length stk_st' stside stH hp_self hp_hp isnside isnval
set_option linter.unusedVariables false
set_option linter.unusedSimpArgs false
/-- The attributes of all nodes are few. -/
def AT (x : FB) : Prop := ∀ f ∈ x.l, f.attrs.length ≤ 1000000
theorem AT.put {x : FB} (h : AT x) (nm tx : Str) {ats : List Attr} (ht : ats.length ≤ 1000000) : AT (putF nm ats tx x) := fun f hf => by
  simp only [putF, List.mem_append, List.mem_singleton] at hf
  rcases hf with hf | rfl
  · exact h f hf
  · exact ht
theorem AT.start {x : FB} (h : AT x) (nm : Str) {ats : List Attr} (ht : ats.length ≤ 1000000) : AT (startF nm ats x) := by
  unfold startF
  have h2 : AT ⟨x.l, op2R nm x.l (op1R nm x.l x.op), x.bad⟩ := h
  split
  · exact h2.put nm ByteArray.empty ht
  · exact h2.put nm ByteArray.empty ht
theorem AT.take {x : FB} (h : AT x) {t : Token} (ht : t.attrs.length ≤ 1000000) : AT (takeF t x) := by
  unfold takeF
  split
  · unfold textF
    split
    · exact h
    · split
      · intro f hf
        obtain ⟨i, hi, rfl⟩ := List.mem_iff_getElem.1 hf
        simp only [sayF, List.getElem_modify]
        have hi : i < x.l.length := by simpa [sayF] using hi
        have := h _ (List.getElem_mem hi)
        split
        · exact this
        · exact this
      · exact h.put _ _ (by simp)
  · split
    · exact h.start _ ht
    · split
      · unfold endF
        split
        · exact h
        · split
          · exact h.start bP (by simp)
          · split
            · exact h.start bBr (by simp)
            · exact h
      · exact h
theorem AFew_kidsS : ∀ (l : List Fl) (b : Nat) (up : Int), (∀ f ∈ l, f.attrs.length ≤ 1000000) → AFew (kidsS l b up)
  | [], _, _, _ => by rw [kidsS, AFew]; trivial
  | f :: r, b, up, h => by
    have h1 := AFew_kidsS r (b + 1) b (fun f hf => h f (by simp [hf]))
    have h2 := AFew_kidsS r (b + 1) up (fun f hf => h f (by simp [hf]))
    rw [kidsS]
    split
    · rw [AFew]
      refine ⟨h f (by simp), ?_, h2⟩
      split
      · rw [AFew]; trivial
      · exact h1
    · exact h2
theorem goF_AT : ∀ (l : List Token) {x : FB}, AT x → (∀ t ∈ l, t.attrs.length ≤ 1000000) → AT (goF l x)
  | [], x, h, _ => h
  | t :: ts, x, h, hl => by
    rw [goF]
    split
    · exact h
    · exact goF_AT ts (h.take (hl t (by simp))) (fun t ht => hl t (by simp [ht]))
theorem buildF_AFew {l : List Token} {ns : List Node} (hl : ∀ t ∈ l, t.attrs.length ≤ 1000000) (h : buildF l = some ns) : AFew ns := by
  unfold buildF at h
  split at h
  · cases h
  · cases h
    exact AFew_kidsS _ _ _ (goF_AT l (fun f hf => by cases hf) hl)
def buildFR (o : Option (List Node)) : AVal := match o with
  | none => .tup [.v (.slice none 0 0), .v (.int .i64 5)]
  | some ns => .tup [.sl false 4 (ns.map nodeRow), .v (.int .i64 0)]
theorem FBH.nil {H : AHeap} {b : Nat} : FBH (H.put b (.cells tB [.v (.slice none 0 0), .v (.slice none 0 0), .v (.bool false)])) b ⟨[], [], false⟩ (.v (.slice none 0 0)) (.v (.slice none 0 0)) :=
  ⟨hp_self _ _ _, .nil, .nil⟩
def c_build04 : AFn := ⟨1, 33, [2, 3],
  .seq (.ops [⟨(some 2), none, .q (.mv (.const (.slice none 0 0)))⟩,
      ⟨(some 3), none, .q (.mv (.const (.int .i64 0)))⟩])
  (.seq (.ops [⟨(some 6), none, .q (.bld [(.slice none 0 0), (.slice none 0 0), (.bool false)] [])⟩,
      ⟨(some 7), none, .e (.box 59 (.tmp 6))⟩,
      ⟨(some 4), none, .q (.mv (.tmp 7))⟩])
  (.seq (.seq (.ops [⟨(some 5), none, .q (.mv (.const (.int .i64 0)))⟩])
  (.block 0 (.loop (.seq (.seq (.ops [⟨(some 8), none, .q (.mv (.tmp 5))⟩,
          ⟨(some 9), none, .q (.mv (.tmp 0))⟩,
          ⟨(some 10), none, .q (.len false (.tmp 9))⟩,
          ⟨(some 11), none, .q (.bin .lss .num (.tmp 8) (.tmp 10))⟩,
          ⟨(some 12), none, .q (.mv (.tmp 11))⟩,
          ⟨(some 13), (some (12, true)), .q (.mv (.tmp 4))⟩,
          ⟨(some 14), (some (12, true)), .q (.nck (.tmp 13))⟩,
          ⟨(some 15), (some (12, true)), .q (.fad 2 1 (.tmp 14))⟩,
          ⟨(some 16), (some (12, true)), .q (.ld false 1 (.tmp 15))⟩,
          ⟨(some 17), (some (12, true)), .q (.un .not (.tmp 16))⟩,
          ⟨(some 18), none, .q (.pick (.tmp 12) (.tmp 17) (.const (.bool false)))⟩])
      (.cond (.tmp 18)
        (.skip)
        (.exit 0)))
      (.seq (.block 1 (.ops [⟨(some 21), none, .q (.mv (.tmp 4))⟩,
            ⟨(some 22), none, .q (.mv (.tmp 0))⟩,
            ⟨(some 23), none, .q (.mv (.tmp 5))⟩,
            ⟨(some 24), none, .q (.ixa 5 (.tmp 22) (.tmp 23))⟩,
            ⟨(some 25), none, .q (.ld true 5 (.tmp 24))⟩,
            ⟨(some 26), none, .e (.call 31 [(.tmp 21), (.tmp 25)])⟩]))
      (.ops [⟨(some 19), none, .q (.mv (.tmp 5))⟩,
          ⟨(some 20), none, .q (.bin .add .num (.tmp 19) (.const (.int .i64 1)))⟩,
          ⟨(some 5), none, .q (.mv (.tmp 20))⟩]))))))
  (.seq (.seq (.ops [⟨(some 27), none, .q (.mv (.tmp 4))⟩,
      ⟨(some 28), none, .q (.nck (.tmp 27))⟩,
      ⟨(some 29), none, .q (.fad 2 1 (.tmp 28))⟩,
      ⟨(some 30), none, .q (.ld false 1 (.tmp 29))⟩])
  (.cond (.tmp 30)
    (.seq (.ops [⟨(some 2), none, .q (.mv (.const (.slice none 0 0)))⟩,
        ⟨(some 3), none, .q (.mv (.const (.int .i64 5)))⟩])
    (.ret))
    (.skip)))
  (.seq (.ops [⟨(some 31), none, .q (.mv (.tmp 4))⟩,
      ⟨(some 32), none, .e (.call 32 [(.tmp 31), (.const (.int .i64 (-1)))])⟩,
      ⟨(some 2), none, .q (.mv (.tmp 32))⟩,
      ⟨(some 3), none, .q (.mv (.const (.int .i64 0)))⟩])
  (.ret))))), []⟩
theorem k_build04 : compF Try.prog 15 = some c_build04 := by kernel_rfl
set_option maxHeartbeats 8000000 in
theorem build04_ok {W : World} (f : Bool) (l : List Token) (hl : l.length ≤ 10000) (ht : ∀ t ∈ l, t.text.size ≤ 6000) : ACalls Try.prog W 15 [.sl f 5 (l.map tokRow)] AHeap.none fun v _ => v = buildFR (buildF l) := by
  have hll : (l.map tokRow).length = l.length := by simp
  have hgt : ∀ i (h : i < l.length), (l.map tokRow).getD i [] = tokRow l[i] := fun i h => by simp [h]
  have htl : ∀ t, (tokRow t).length = 5 := fun t => rfl
  unfold buildF
  refine fn_run follows k_build04 rfl ?_
  simp only [c_build04, aretC_nil, List.zipIdx_cons, List.zipIdx_nil, List.map_cons, List.map_nil, Nat.zero_add]
  generalize l.map tokRow = L at hll hgt
  (try simp +decide (implicitDefEqProofs := false) only [go_sem, ↓stk_g, ↓stk_c, ↓reduceIte, lay, oneOr, List.take_succ_cons, List.take_zero, List.drop_succ_cons, List.drop_zero, List.nil_append, List.cons_append, Option.getD_some, Nat.reduceAdd, Nat.reduceLeDiff, List.append_nil, and_self, List.all_cons, List.all_nil])
  rw [stk_box]
  refine ⟨by rfl, fun b hb => ?_⟩
  (try simp +decide (implicitDefEqProofs := false) only [go_sem, ↓stk_g, ↓stk_c, ↓reduceIte, lay, oneOr, List.take_succ_cons, List.take_zero, List.drop_succ_cons, List.drop_zero, List.nil_append, List.cons_append, Option.getD_some, Nat.reduceAdd, Nat.reduceLeDiff, List.append_nil, and_self, List.all_cons, List.all_nil])
  refine stk_up (α := AHeap × FB) l.length (fun i q => ⟨[(5, .v (.int .i64 i)), (4, .v (.pointer (some ⟨b, 0, none⟩))), (0, .sl f 5 L)], q.1⟩)
    (fun i q => FBo q.1 b q.2 ∧ TI i q.2 ∧ goF (l.drop i) q.2 = goF l ⟨[], [], false⟩) (AHeap.none.put b (.cells tB [.v (.slice none 0 0), .v (.slice none 0 0), .v (.bool false)]), ⟨[], [], false⟩) (Weak.list _ (Sub.refl _) (by (try simp +decide (implicitDefEqProofs := false) only [go_sem, ↓stk_g, ↓stk_c, ↓reduceIte]))) ⟨⟨_, _, FBH.nil⟩, ⟨⟨by simp, by simp, by simp⟩, by simp, by simp, by simp⟩, by simp⟩ ?_
  rintro i ⟨H, x⟩ hi ⟨h, hti, hgo⟩
  dsimp only at h hti hgo
  by_cases hlt : i < l.length
  · have g1 : (i : Int) < (l.length : Int) := by omega
    have hw := wrap_in (n := i + 1) (by omega) (by omega)
    cases hbad : x.bad
    · obtain ⟨X, Y, h⟩ := h
      have hg := h.here
      rw [hbad] at hg
      have hgi : L.getD i [] = [.v (.int .i64 l[i].kind), .v (.string l[i].name), .sl false 2 (l[i].attrs.map attrRow), .v (.bool l[i].closed), .v (.string l[i].text)] := hgt i hlt
      have hti1 := hti.take (by omega) l[i] (ht _ (List.getElem_mem hlt))
      have hgo1 : goF (l.drop (i + 1)) (takeF l[i] x) = goF l ⟨[], [], false⟩ := by
        rw [← hgo, List.drop_eq_getElem_cons hlt, goF, if_neg (by simp [hbad])]
      have htk := take04_ok (W := W) x hti.fw (by have := hti.len; omega) (by have := hti.deep; omega) l[i] (fun f hf => by have := hti.txt f hf; omega) (by have := ht _ (List.getElem_mem hlt); omega) ⟨_, _, h⟩
      (try simp +decide (implicitDefEqProofs := false) only [go_sem, ↓stk_g, ↓stk_c, ↓reduceIte, g1, hll, hlt, hg, hgi, lay, oneOr, List.take_succ_cons, List.take_zero, List.drop_succ_cons, List.drop_zero, List.nil_append, List.cons_append, Option.getD_some, Nat.reduceAdd, Nat.reduceLeDiff, List.append_nil, and_self, List.all_cons, List.all_nil])
      refine stk_call htk fun v H' hv => ?_
      (try simp +decide (implicitDefEqProofs := false) only [go_sem, ↓stk_g, ↓stk_c, ↓reduceIte, hw])
      exact ⟨(H', takeF l[i] x), Weak.list _ (Sub.refl _) (by (try simp +decide (implicitDefEqProofs := false) only [go_sem, ↓stk_g, ↓stk_c, ↓reduceIte])), hv, hti1, hgo1⟩
    · obtain ⟨X, Y, h⟩ := h
      have hg := h.here
      rw [hbad] at hg
      have hgx := goF_bad (l := l.drop i) hbad
      rw [hgo] at hgx
      (try simp +decide (implicitDefEqProofs := false) only [go_sem, ↓stk_g, ↓stk_c, ↓reduceIte, g1, hll, hg, lay, oneOr, List.take_succ_cons, List.take_zero, List.drop_succ_cons, List.drop_zero, List.nil_append, List.cons_append, Option.getD_some, Nat.reduceAdd, Nat.reduceLeDiff, List.append_nil, and_self, List.all_cons, List.all_nil])
      refine aret_pure (.inr rfl) ?_; simp +decide only [retOf, tget, if_true, if_false, ↓reduceIte, List.map_cons, List.map_nil]
      rw [hgx, if_pos hbad]
      rfl
  · have g1 : ¬ (i : Int) < (l.length : Int) := by omega
    rw [List.drop_eq_nil_of_le (by omega), goF] at hgo
    rw [← hgo]
    obtain ⟨X, Y, h⟩ := h
    have hg := h.here
    cases hbad : x.bad
    · rw [hbad] at hg
      rw [if_neg (by simp)]
      (try simp +decide (implicitDefEqProofs := false) only [go_sem, ↓stk_g, ↓stk_c, ↓reduceIte, g1, hll, hg, lay, oneOr, List.take_succ_cons, List.take_zero, List.drop_succ_cons, List.drop_zero, List.nil_append, List.cons_append, Option.getD_some, Nat.reduceAdd, Nat.reduceLeDiff, List.append_nil, and_self, List.all_cons, List.all_nil])
      refine stk_pureW ⟨[(31, .pl (fbCells x))], AHeap.none⟩ (Weak.list _ (Sub.none _) ?_) (kids04_ok x hti.fw) fun v hv => ?_
      · (try simp +decide (implicitDefEqProofs := false) only [go_sem, ↓stk_g, ↓stk_c, ↓reduceIte])
        exact h.view
      subst hv
      (try simp +decide (implicitDefEqProofs := false) only [go_sem, ↓stk_g, ↓stk_c, ↓reduceIte, lay, oneOr, List.take_succ_cons, List.take_zero, List.drop_succ_cons, List.drop_zero, List.nil_append, List.cons_append, Option.getD_some, Nat.reduceAdd, Nat.reduceLeDiff, List.append_nil, and_self, List.all_cons, List.all_nil])
      refine aret_pure (.inr rfl) ?_; simp +decide only [retOf, tget, if_true, if_false, ↓reduceIte, List.map_cons, List.map_nil]
      rfl
    · rw [hbad] at hg
      rw [if_pos rfl]
      (try simp +decide (implicitDefEqProofs := false) only [go_sem, ↓stk_g, ↓stk_c, ↓reduceIte, g1, hll, hg, lay, oneOr, List.take_succ_cons, List.take_zero, List.drop_succ_cons, List.drop_zero, List.nil_append, List.cons_append, Option.getD_some, Nat.reduceAdd, Nat.reduceLeDiff, List.append_nil, and_self, List.all_cons, List.all_nil])
      refine aret_pure (.inr rfl) ?_; simp +decide only [retOf, tget, if_true, if_false, ↓reduceIte, List.map_cons, List.map_nil]
      rfl
end Go.Proofs.Ytidicfdcjoggpaa.M
