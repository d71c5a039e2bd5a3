/-
  The document's tree builder, a token: walked.
-/
import Derived.Test.YtidicfdcjoggpaaDbStart
import Derived.Test.YtidicfdcjoggpaaBridge
namespace Go.Proofs.Ytidicfdcjoggpaa.M
open Go.RowKit
attribute [local go_sem] stk_nil stk_skip stk_ops stk_seq stk_block stk_scope stk_exit stk_ret stk_code_exit stk_code_ret stk_ops_exit stk_ops_ret stk_endb stk_endb_exit stk_endb_ret stk_endl stk_endl_exit stk_endl_ret stk_ops_nil stk_q stk_niq niqA flip srcOf stk_bsl side val bside bval uside uval cside cval bndS bndV intA isInt lside lval fside fval faside faval iside ival sxside sxval sizeA slside slval llside llval lenside lenval lenA tupA mmside mmval nkside boolA isBool ev_t ev_c tget put_s put_n lkside lkval menval stk_mk Option.isSome_some isMapA mapA keyA FZ_rfl FZ_any retOf true_and and_true if_true if_false decide_true decide_false Bool.not_true Bool.not_false Nat.zero_add List.map_cons List.map_nil Int.toNat_natCast strRows_len intRows_len List.getD_cons_zero List.getD_cons_succ List.length_cons List.length_nil List.forall_mem_cons List.not_mem_nil false_implies implies_true Int.ofNat_zero Int.natCast_add Int.natCast_one Int.ofNat_one Int.natCast_zero isB isU Bool.false_eq_true beq_self_eq_true Bool.false_beq Bool.true_beq Int.natCast_nonneg undef strRows_take strRows_drop Int.toNat_zero List.drop_zero Bool.and_true oneOr List.all_cons List.all_nil AVal.one Value.oneCell' Bool.true_and List.take_length stk_st' stside stH hp_self hp_hp isnside isnval
set_option linter.unusedVariables false
set_option linter.unusedSimpArgs false
theorem sub_new (H : AHeap) (b : Nat) (o : AObj) (h : H b = none) : Sub H (H.put b o) := fun c x hc => by
  rw [hp_ne]; exact hc
  intro e; rw [e, h] at hc; cases hc
theorem stk_callW {P : Program} {W : World} {k : List Item} {Q : Exit → AState → Prop} {s : AState} {d : Option Nat} {f : FuncId} {xs : List Operand} {r : List AOper} {R : AVal → AHeap → Prop} (s1 : AState) (hw : Weak s s1) (h : ACalls P W f (xs.map (ev s1.tm)) s1.H R) (hk : ∀ v H', R v H' → stk P W (.ops r :: k) Q .normal ((⟨s1.tm, H'⟩ : AState).put d v)) : stk P W (.ops (⟨d, none, .e (.call f xs)⟩ :: r) :: k) Q .normal s :=
  ⟨s1, hw, ACalls.mono h hk⟩
theorem sayRows {l : List Fl} {m : Nat} (hm : m < l.length) (s : Str) : (l.map flRow).set m [AVal.v (.string (nameF l m)), AVal.sl false 2 (l[m].attrs.map attrRow), AVal.v (.string (l[m].text ++ s)), AVal.v (.slice none 0 0), AVal.v (.int .i64 l[m].up)] = (sayF m s l).map flRow := by
  have hn : nameF l m = l[m].name := by simp [nameF, hm]
  rw [hn]
  apply List.ext_getElem
  · simp [sayF]
  · intro i h1 h2
    simp only [List.getElem_set, List.getElem_map, sayF, List.getElem_modify]
    by_cases e : m = i
    · subst e; simp [flRow, Fl.say]
    · simp [e]
theorem FW.start {x : FB} (h : FW x) (hl : x.l.length + 1 ≤ 1000000) (hd : x.op.length + 1 ≤ 1000000) (nm : Str) (ats : List Attr) : FW (startF nm ats x) := by
  have h1 := h.op1 nm
  have l1 := op1_len nm x.l x.op
  unfold startF
  generalize op1R nm x.l x.op = op at h1 l1 ⊢
  have h2 := h1.op2 nm
  have l2 := op2_len nm x.l op
  dsimp only at h2
  generalize op2R nm x.l op = op at h2 l2 ⊢
  have h3 := h2.put hl nm ByteArray.empty ats
  split
  · exact h3
  · refine ⟨fun o ho => ?_, h3.len, ?_⟩
    · rcases List.mem_cons.1 ho with rfl | ho
      · simp [openF, putF]
      · exact h3.inn o ho
    · simp [openF, putF]; omega
theorem lastUp_lt (l : List Fl) (h : Int) : ∀ n, lastUp l h n = -1 ∨ ∃ m : Nat, lastUp l h n = m ∧ m < n
  | 0 => .inl rfl
  | n + 1 => by
    rw [lastUp]
    split
    · exact .inr ⟨n, rfl, by omega⟩
    · rcases lastUp_lt l h n with e | ⟨m, e, hm⟩
      · exact .inl e
      · exact .inr ⟨m, e, by omega⟩
theorem ACalls.nilAttrs {W : World} {f : FuncId} {p nm : AVal} {H : AHeap} {K : AVal → AHeap → Prop} (h : ACalls Try.prog W f [p, nm, .sl false 2 []] H K) : ACalls Try.prog W f [p, nm, .v (.slice none 0 0)] H K :=
  h.args fun S w us hv => by
    obtain ⟨hl, hv⟩ := hv
    refine ⟨hl, fun i hi hi' => ?_⟩
    have := hv i hi hi'
    rcases i with _ | _ | _ | i
    · exact this
    · exact this
    · exact VR.nilrow 2 this
    · simp at hi; omega
theorem ACalls.nilAgg {W : World} {f : FuncId} {p a c d : AVal} {H : AHeap} {K : AVal → AHeap → Prop} (h : ACalls Try.prog W f [p, .agg [a, .sl false 2 [], c, d]] H K) : ACalls Try.prog W f [p, .agg [a, .v (.slice none 0 0), c, d]] H K :=
  h.args (VRs.map2 (fun _ _ _ h => h) (fun S w u h => by
    cases h with
    | agg us hl hv ho h =>
      refine .agg us hl hv (fun j hj => ?_) (fun j hj => ?_)
      · have := ho j hj
        rcases j with _ | _ | j
        · exact this
        · rfl
        · exact this
      · have := h j hj
        rcases j with _ | _ | j
        · exact this
        · exact VR.nilrow 2 this
        · exact this))
def c_take04 : AFn := ⟨2, 79, [],
  .seq (.ops [⟨(some 3), none, .e (.box 33 (.tmp 1))⟩])
  (.seq (.ops [⟨(some 5), none, .q (.fad 0 1 (.tmp 3))⟩,
      ⟨(some 6), none, .q (.ld false 1 (.tmp 5))⟩])
  (.block 0 (.seq (.ops [⟨(some 8), none, .q (.bin .eql .num (.tmp 6) (.const (.int .i64 1)))⟩,
        ⟨(some 7), none, .q (.mv (.tmp 8))⟩])
    (.cond (.tmp 7)
      (.seq (.seq (.ops [⟨(some 9), none, .q (.fad 4 1 (.tmp 3))⟩,
          ⟨(some 10), none, .q (.ld false 1 (.tmp 9))⟩,
          ⟨(some 11), none, .q (.bin .eql .num (.tmp 10) (.const (.string ByteArray.empty)))⟩])
      (.cond (.tmp 11)
        (.ret)
        (.skip)))
      (.seq (.ops [⟨(some 12), none, .q (.mv (.tmp 0))⟩,
          ⟨(some 13), none, .e (.call 42 [(.tmp 12)])⟩,
          ⟨(some 4), none, .q (.mv (.tmp 13))⟩])
      (.seq (.ops [⟨(some 14), none, .q (.mv (.tmp 4))⟩,
          ⟨(some 15), none, .q (.bin .geq .num (.tmp 14) (.const (.int .i64 0)))⟩,
          ⟨(some 16), none, .q (.mv (.tmp 15))⟩,
          ⟨(some 17), (some (16, true)), .q (.mv (.tmp 0))⟩,
          ⟨(some 18), (some (16, true)), .q (.nck (.tmp 17))⟩,
          ⟨(some 19), (some (16, true)), .q (.fad 0 1 (.tmp 18))⟩,
          ⟨(some 20), (some (16, true)), .q (.ld false 1 (.tmp 19))⟩,
          ⟨(some 21), (some (16, true)), .q (.mv (.tmp 4))⟩,
          ⟨(some 22), (some (16, true)), .q (.ixa 5 (.tmp 20) (.tmp 21))⟩,
          ⟨(some 23), (some (16, true)), .q (.fad 0 4 (.tmp 22))⟩,
          ⟨(some 24), (some (16, true)), .q (.fad 0 1 (.tmp 23))⟩,
          ⟨(some 25), (some (16, true)), .q (.ld false 1 (.tmp 24))⟩,
          ⟨(some 26), (some (16, true)), .q (.bin .eql .num (.tmp 25) (.const (.string ByteArray.empty)))⟩,
          ⟨(some 27), none, .q (.pick (.tmp 16) (.tmp 26) (.const (.bool false)))⟩])
      (.cond (.tmp 27)
        (.ops [⟨(some 28), none, .q (.mv (.tmp 0))⟩,
            ⟨(some 29), none, .q (.nck (.tmp 28))⟩,
            ⟨(some 30), none, .q (.fad 0 1 (.tmp 29))⟩,
            ⟨(some 31), none, .q (.ld false 1 (.tmp 30))⟩,
            ⟨(some 32), none, .q (.mv (.tmp 4))⟩,
            ⟨(some 33), none, .q (.mv (.tmp 0))⟩,
            ⟨(some 34), none, .q (.nck (.tmp 33))⟩,
            ⟨(some 35), none, .q (.fad 0 1 (.tmp 34))⟩,
            ⟨(some 36), none, .q (.ld false 1 (.tmp 35))⟩,
            ⟨(some 37), none, .q (.mv (.tmp 4))⟩,
            ⟨(some 38), none, .q (.ixa 5 (.tmp 36) (.tmp 37))⟩,
            ⟨(some 39), none, .q (.fad 0 4 (.tmp 38))⟩,
            ⟨(some 40), none, .q (.fad 2 1 (.tmp 39))⟩,
            ⟨(some 41), none, .q (.ld false 1 (.tmp 40))⟩,
            ⟨(some 42), none, .q (.fad 4 1 (.tmp 3))⟩,
            ⟨(some 43), none, .q (.ld false 1 (.tmp 42))⟩,
            ⟨(some 44), none, .q (.bin .add .num (.tmp 41) (.tmp 43))⟩,
            ⟨(some 45), none, .q (.ixa 5 (.tmp 31) (.tmp 32))⟩,
            ⟨(some 46), none, .q (.fad 0 4 (.tmp 45))⟩,
            ⟨(some 47), none, .q (.fad 2 1 (.tmp 46))⟩,
            ⟨none, none, .e (.st 1 (.tmp 47) (.tmp 44))⟩])
        (.ops [⟨(some 48), none, .q (.mv (.tmp 0))⟩,
            ⟨(some 49), none, .q (.fad 4 1 (.tmp 3))⟩,
            ⟨(some 50), none, .q (.ld false 1 (.tmp 49))⟩,
            ⟨(some 51), none, .q (.bld [(.string ByteArray.empty), (.slice none 0 0), (.string ByteArray.empty), (.slice none 0 0)] [(2, 1, (.tmp 50))])⟩,
            ⟨(some 52), none, .e (.call 43 [(.tmp 48), (.tmp 51)])⟩])))))
      (.seq (.ops [⟨(some 54), none, .q (.bin .eql .num (.tmp 6) (.const (.int .i64 2)))⟩,
          ⟨(some 53), none, .q (.mv (.tmp 54))⟩])
      (.cond (.tmp 53)
        (.ops [⟨(some 55), none, .q (.mv (.tmp 0))⟩,
            ⟨(some 56), none, .q (.fad 1 1 (.tmp 3))⟩,
            ⟨(some 57), none, .q (.ld false 1 (.tmp 56))⟩,
            ⟨(some 58), none, .q (.fad 2 1 (.tmp 3))⟩,
            ⟨(some 59), none, .q (.ld false 1 (.tmp 58))⟩,
            ⟨(some 60), none, .e (.call 44 [(.tmp 55), (.tmp 57), (.tmp 59)])⟩])
        (.seq (.ops [⟨(some 62), none, .q (.bin .eql .num (.tmp 6) (.const (.int .i64 3)))⟩,
            ⟨(some 61), none, .q (.mv (.tmp 62))⟩])
        (.cond (.tmp 61)
          (.seq (.seq (.ops [⟨(some 63), none, .q (.mv (.tmp 0))⟩,
              ⟨(some 64), none, .q (.fad 1 1 (.tmp 3))⟩,
              ⟨(some 65), none, .q (.ld false 1 (.tmp 64))⟩,
              ⟨(some 66), none, .e (.call 45 [(.tmp 63), (.tmp 65)])⟩])
          (.cond (.tmp 66)
            (.ret)
            (.skip)))
          (.seq (.seq (.ops [⟨(some 67), none, .q (.fad 1 1 (.tmp 3))⟩,
              ⟨(some 68), none, .q (.ld false 1 (.tmp 67))⟩,
              ⟨(some 69), none, .q (.bin .eql .num (.tmp 68) (.const (.string ⟨#[112]⟩)))⟩])
          (.cond (.tmp 69)
            (.seq (.ops [⟨(some 70), none, .q (.mv (.tmp 0))⟩,
                ⟨(some 71), none, .e (.call 44 [(.tmp 70), (.const (.string ⟨#[112]⟩)), (.const (.slice none 0 0))])⟩])
            (.ops [⟨(some 72), none, .q (.mv (.tmp 0))⟩,
                ⟨(some 73), none, .e (.call 45 [(.tmp 72), (.const (.string ⟨#[112]⟩))])⟩]))
            (.skip)))
          (.seq (.ops [⟨(some 74), none, .q (.fad 1 1 (.tmp 3))⟩,
              ⟨(some 75), none, .q (.ld false 1 (.tmp 74))⟩,
              ⟨(some 76), none, .q (.bin .eql .num (.tmp 75) (.const (.string ⟨#[98, 114]⟩)))⟩])
          (.cond (.tmp 76)
            (.ops [⟨(some 77), none, .q (.mv (.tmp 0))⟩,
                ⟨(some 78), none, .e (.call 44 [(.tmp 77), (.const (.string ⟨#[98, 114]⟩)), (.const (.slice none 0 0))])⟩])
            (.skip)))))
          (.skip))))))))), []⟩
theorem k_take04 : compF Try.prog 31 = some c_take04 := by kernel_rfl
set_option maxHeartbeats 16000000 in
theorem take04_ok {W : World} (x : FB) (hx : FW x) (hl : x.l.length + 1 ≤ 1000000) (hd : x.op.length + 1 ≤ 1000000) (t : Token) (hts : ∀ f ∈ x.l, f.text.size ≤ 1000000000) (htt : t.text.size ≤ 1000000) {H : AHeap} {g : Nat} (h : FBo H g x) :
    ACalls Try.prog W 31 [.v (.pointer (some ⟨g, 0, none⟩)), .agg (tokRow t)] H fun _ H' => FBo H' g (takeF t x) := by
  obtain ⟨X, Y, h⟩ := h
  obtain ⟨tk, tn, ta, tc, tt⟩ := t
  dsimp only at htt
  have htr : tokRow ⟨tk, tn, ta, tc, tt⟩ = [.v (.int .i64 tk), .v (.string tn), .sl false 2 (ta.map attrRow), .v (.bool tc), .v (.string tt)] := rfl
  rw [htr]
  have htf : takeF ⟨tk, tn, ta, tc, tt⟩ x = if tk = 1 then textF tt x else if tk = 2 then startF tn ta x else if tk = 3 then endF tn x else x := rfl
  rw [htf]
  clear htr htf
  refine fn_run follows k_take04 rfl ?_
  simp only [c_take04, aretC_nil, List.zipIdx_cons, List.zipIdx_nil, List.map_cons, List.map_nil, Nat.zero_add]
  (try simp +decide (implicitDefEqProofs := false) only [go_sem, ↓stk_g, ↓stk_c, ↓reduceIte, lay, oneOr, List.take_succ_cons, List.take_zero, List.drop_succ_cons, List.drop_zero, List.nil_append, List.cons_append, Option.getD_some, Nat.reduceAdd, Nat.reduceLeDiff, List.append_nil, and_self, List.all_cons, List.all_nil])
  rw [stk_box]
  refine ⟨by rfl, fun b hb => ?_⟩
  have hb : H b = none := hb
  have h1 := h.new (o := .cells 33 [.v (.int .i64 tk), .v (.string tn), .sl false 2 (ta.map attrRow), .v (.bool tc), .v (.string tt)]) hb
  have hbs := hp_self H b (.cells 33 [.v (.int .i64 tk), .v (.string tn), .sl false 2 (ta.map attrRow), .v (.bool tc), .v (.string tt)])
  have hsub := sub_new H b (.cells 33 [.v (.int .i64 tk), .v (.string tn), .sl false 2 (ta.map attrRow), .v (.bool tc), .v (.string tt)]) hb
  show stk _ _ _ _ _ (AState.put ⟨_, H.put b (.cells 33 [.v (.int .i64 tk), .v (.string tn), .sl false 2 (ta.map attrRow), .v (.bool tc), .v (.string tt)])⟩ _ _)
  generalize H.put b (.cells 33 [.v (.int .i64 tk), .v (.string tn), .sl false 2 (ta.map attrRow), .v (.bool tc), .v (.string tt)]) = H1 at h1 hbs hsub ⊢
  have hg1 := h1.here
  by_cases k1 : tk = 1
  · have d1 : decide (tk = 1) = true := decide_eq_true k1
    rw [if_pos k1]
    unfold textF
    by_cases e0 : tt = ByteArray.empty
    · rw [if_pos e0]
      have d2 : decide (tt = ByteArray.empty) = true := decide_eq_true e0
      (try simp +decide (implicitDefEqProofs := false) only [go_sem, ↓stk_g, ↓stk_c, ↓reduceIte, hbs, d1, d2, lay, oneOr, List.take_succ_cons, List.take_zero, List.drop_succ_cons, List.drop_zero, List.nil_append, List.cons_append, Option.getD_some, Nat.reduceAdd, Nat.reduceLeDiff, List.append_nil, and_self, List.all_cons, List.all_nil])
      exact ⟨.inr rfl, _, .tup [], Sub.refl _, .refl _, _, _, h1⟩
    rw [if_neg e0]
    have d2 : decide (tt = ByteArray.empty) = false := decide_eq_false e0
    (try simp +decide (implicitDefEqProofs := false) only [go_sem, ↓stk_g, ↓stk_c, ↓reduceIte, hbs, d1, d2, lay, oneOr, List.take_succ_cons, List.take_zero, List.drop_succ_cons, List.drop_zero, List.nil_append, List.cons_append, Option.getD_some, Nat.reduceAdd, Nat.reduceLeDiff, List.append_nil, and_self, List.all_cons, List.all_nil])
    refine stk_callR [.pl (fbCells x)] (FZs.cons h1.view FZs.nil) (last04_ok x hx) (fun v hv => by subst hv; rfl) fun v hv => ?_
    subst hv
    have hlu := lastUp_lt x.l (hereR x.op) x.l.length
    generalize lastUp x.l (hereR x.op) x.l.length = k at hlu ⊢
    rcases hlu with rfl | ⟨m, rfl, hm⟩
    · have d3 : decide (0 ≤ (-1 : Int)) = false := by decide
      rw [if_neg (by omega)]
      (try simp +decide (implicitDefEqProofs := false) only [go_sem, ↓stk_g, ↓stk_c, ↓reduceIte, hbs, d3, lay, oneOr, List.take_succ_cons, List.take_zero, List.drop_succ_cons, List.drop_zero, List.nil_append, List.cons_append, Option.getD_some, Nat.reduceAdd, Nat.reduceLeDiff, List.append_nil, and_self, List.all_cons, List.all_nil])
      refine stk_call (ACalls.nilAgg (put04_ok x hx ⟨_, _, h1⟩ ByteArray.empty tt [])) fun v H' hv => ?_
      (try simp +decide (implicitDefEqProofs := false) only [go_sem, ↓stk_g, ↓stk_c, ↓reduceIte])
      exact ⟨.inl rfl, _, .tup [], Sub.refl _, .refl _, hv⟩
    · have d3 : decide (0 ≤ (m : Int)) = true := decide_eq_true (by omega)
      obtain ⟨gx, rfl, hgx⟩ := h1.rx.some (fun e => by have := congrArg List.length e; simp at this; rw [this] at hm; simp at hm)
      have hlx : (x.l.map flRow).length = x.l.length := by simp
      rw [hlx] at hg1 h1
      have g1 : (m : Int) < (x.l.length : Int) := by omega
      have g2 : m < (x.l.map flRow).length := by omega
      have hfl : (x.l.map flRow).getD m [] = [.v (.string (nameF x.l m)), .sl false 2 (x.l[m].attrs.map attrRow), .v (.string x.l[m].text), .v (.slice none 0 0), .v (.int .i64 x.l[m].up)] := by
        rw [flRows_get hm, flRow]; simp [nameF, hm]
      by_cases e4 : nameF x.l m = ByteArray.empty
      · have d4 : decide (nameF x.l m = ByteArray.empty) = true := decide_eq_true e4
        rw [if_pos ⟨by omega, by simpa using e4⟩, Int.toNat_natCast]
        have hsz : x.l[m].text.size + tt.size ≤ 9223372036854775807 := by have := hts _ (List.getElem_mem hm); omega
        (try simp +decide (implicitDefEqProofs := false) only [go_sem, ↓stk_g, ↓stk_c, ↓reduceIte, hbs, hg1, hgx, d3, d4, g1, g2, hm, hfl, hsz, lay, oneOr, List.take_succ_cons, List.take_zero, List.drop_succ_cons, List.drop_zero, List.nil_append, List.cons_append, Option.getD_some, Nat.reduceAdd, Nat.reduceLeDiff, List.append_nil, and_self, List.all_cons, List.all_nil])
        refine ⟨.inl rfl, _, .tup [], Sub.refl _, .refl _, .bs gx 5 x.l.length, Y, ?_⟩
        have hgg : g ≠ gx := fun e => by subst e; rw [hg1] at hgx; cases hgx
        have hrs : (x.l.map flRow).set m [AVal.v (.string (nameF x.l m)), AVal.sl false 2 (x.l[m].attrs.map attrRow), AVal.v (.string (x.l[m].text ++ tt)), AVal.v (.slice none 0 0), AVal.v (.int .i64 x.l[m].up)] = (sayF m tt x.l).map flRow := sayRows hm tt
        have hsl : (sayF m tt x.l).length = x.l.length := by simp [sayF]
        refine ⟨(hp_ne _ _ hgg).trans hg1, ?_, h1.ry.kept fun c o hc hb => (hp_ne _ _ (fun e => ?_)).trans hc⟩
        · show RowO _ tF 5 _ ((sayF m tt x.l).map flRow)
          rw [← hrs]
          exact .bs (hp_self _ _ _) (by simp)
        · subst e; exact h1.axy _ hb rfl
      · have d4 : decide (nameF x.l m = ByteArray.empty) = false := decide_eq_false e4
        rw [if_neg (by simp [e4])]
        (try simp +decide (implicitDefEqProofs := false) only [go_sem, ↓stk_g, ↓stk_c, ↓reduceIte, hbs, hg1, hgx, d3, d4, g1, g2, hm, hfl, lay, oneOr, List.take_succ_cons, List.take_zero, List.drop_succ_cons, List.drop_zero, List.nil_append, List.cons_append, Option.getD_some, Nat.reduceAdd, Nat.reduceLeDiff, List.append_nil, and_self, List.all_cons, List.all_nil])
        refine stk_call (ACalls.nilAgg (put04_ok x hx ⟨_, _, h1⟩ ByteArray.empty tt [])) fun v H' hv => ?_
        (try simp +decide (implicitDefEqProofs := false) only [go_sem, ↓stk_g, ↓stk_c, ↓reduceIte])
        exact ⟨.inl rfl, _, .tup [], Sub.refl _, .refl _, hv⟩
  have d1 : decide (tk = 1) = false := decide_eq_false k1
  rw [if_neg k1]
  by_cases k2 : tk = 2
  · have d2 : decide (tk = 2) = true := decide_eq_true k2
    rw [if_pos k2]
    (try simp +decide (implicitDefEqProofs := false) only [go_sem, ↓stk_g, ↓stk_c, ↓reduceIte, hbs, d1, d2, lay, oneOr, List.take_succ_cons, List.take_zero, List.drop_succ_cons, List.drop_zero, List.nil_append, List.cons_append, Option.getD_some, Nat.reduceAdd, Nat.reduceLeDiff, List.append_nil, and_self, List.all_cons, List.all_nil])
    refine stk_call (start04_ok x hx hl hd ⟨_, _, h1⟩ tn ta) fun v H' hv => ?_
    (try simp +decide (implicitDefEqProofs := false) only [go_sem, ↓stk_g, ↓stk_c, ↓reduceIte])
    exact ⟨.inl rfl, _, .tup [], Sub.refl _, .refl _, hv⟩
  have d2 : decide (tk = 2) = false := decide_eq_false k2
  rw [if_neg k2]
  by_cases k3 : tk = 3
  · have d3 : decide (tk = 3) = true := decide_eq_true k3
    rw [if_pos k3]
    (try simp +decide (implicitDefEqProofs := false) only [go_sem, ↓stk_g, ↓stk_c, ↓reduceIte, hbs, d1, d2, d3, lay, oneOr, List.take_succ_cons, List.take_zero, List.drop_succ_cons, List.drop_zero, List.nil_append, List.cons_append, Option.getD_some, Nat.reduceAdd, Nat.reduceLeDiff, List.append_nil, and_self, List.all_cons, List.all_nil])
    refine stk_callW ⟨[(63, .v (.pointer (some ⟨g, 0, none⟩))), (65, .v (.string tn)), (0, .v (.pointer (some ⟨g, 0, none⟩))), (3, .pl [.v (.int .i64 tk), .v (.string tn), .sl false 2 (ta.map attrRow), .v (.bool tc), .v (.string tt)])], H⟩ (Weak.list _ hsub ?_) (close04_ok x hx ⟨_, _, h⟩ tn) fun v H' hv => ?_
    · (try simp +decide (implicitDefEqProofs := false) only [go_sem, ↓stk_g, ↓stk_c, ↓reduceIte, lay, oneOr, List.take_succ_cons, List.take_zero, List.drop_succ_cons, List.drop_zero, List.nil_append, List.cons_append, Option.getD_some, Nat.reduceAdd, Nat.reduceLeDiff, List.append_nil, and_self, List.all_cons, List.all_nil])
      exact FZ.cells hbs hb rfl (fun j _ _ => .refl _)
    obtain ⟨rfl, hv⟩ := hv
    unfold endF
    by_cases e0 : 0 < innerR x.l [tn] x.op
    · have d4 := decide_eq_true e0
      rw [if_pos e0]
      (try simp +decide (implicitDefEqProofs := false) only [go_sem, ↓stk_g, ↓stk_c, ↓reduceIte, d4])
      exact ⟨.inr rfl, _, .tup [], Sub.refl _, .refl _, hv⟩
    · have d4 := decide_eq_false e0
      rw [if_neg e0]
      have hcl : closeF tn x = x := by unfold closeF closeR; rw [if_pos (by omega)]
      rw [hcl] at hv
      clear hcl h h1 hg1 hbs
      by_cases e1 : tn = bP
      · have d5 : decide (tn = ⟨#[112]⟩) = true := decide_eq_true e1
        rw [if_pos e1]
        (try simp +decide (implicitDefEqProofs := false) only [go_sem, ↓stk_g, ↓stk_c, ↓reduceIte, d4, d5, lay, oneOr, List.take_succ_cons, List.take_zero, List.drop_succ_cons, List.drop_zero, List.nil_append, List.cons_append, Option.getD_some, Nat.reduceAdd, Nat.reduceLeDiff, List.append_nil, and_self, List.all_cons, List.all_nil])
        refine stk_call (ACalls.nilAttrs (start04_ok x hx hl hd hv bP [])) fun v H2 h2 => ?_
        have hxs : FW (startF bP [] x) := hx.start hl hd bP []
        (try simp +decide (implicitDefEqProofs := false) only [go_sem, ↓stk_g, ↓stk_c, ↓reduceIte, lay, oneOr, List.take_succ_cons, List.take_zero, List.drop_succ_cons, List.drop_zero, List.nil_append, List.cons_append, Option.getD_some, Nat.reduceAdd, Nat.reduceLeDiff, List.append_nil, and_self, List.all_cons, List.all_nil])
        refine stk_call (close04_ok _ hxs h2 bP) fun v H2 h2 => ?_
        have d6 : decide (bP = ⟨#[98, 114]⟩) = false := by decide
        subst e1
        (try simp +decide (implicitDefEqProofs := false) only [go_sem, ↓stk_g, ↓stk_c, ↓reduceIte, d6, lay, oneOr, List.take_succ_cons, List.take_zero, List.drop_succ_cons, List.drop_zero, List.nil_append, List.cons_append, Option.getD_some, Nat.reduceAdd, Nat.reduceLeDiff, List.append_nil, and_self, List.all_cons, List.all_nil])
        exact ⟨.inl rfl, _, .tup [], Sub.refl _, .refl _, h2.2⟩
      · have d5 : decide (tn = ⟨#[112]⟩) = false := decide_eq_false e1
        rw [if_neg e1]
        by_cases e2 : tn = bBr
        · have d6 : decide (tn = ⟨#[98, 114]⟩) = true := decide_eq_true e2
          rw [if_pos e2]
          (try simp +decide (implicitDefEqProofs := false) only [go_sem, ↓stk_g, ↓stk_c, ↓reduceIte, d4, d5, d6, lay, oneOr, List.take_succ_cons, List.take_zero, List.drop_succ_cons, List.drop_zero, List.nil_append, List.cons_append, Option.getD_some, Nat.reduceAdd, Nat.reduceLeDiff, List.append_nil, and_self, List.all_cons, List.all_nil])
          refine stk_call (ACalls.nilAttrs (start04_ok x hx hl hd hv bBr [])) fun v H2 h2 => ?_
          (try simp +decide (implicitDefEqProofs := false) only [go_sem, ↓stk_g, ↓stk_c, ↓reduceIte])
          exact ⟨.inl rfl, _, .tup [], Sub.refl _, .refl _, h2⟩
        · have d6 : decide (tn = ⟨#[98, 114]⟩) = false := decide_eq_false e2
          rw [if_neg e2]
          (try simp +decide (implicitDefEqProofs := false) only [go_sem, ↓stk_g, ↓stk_c, ↓reduceIte, d4, d5, d6, lay, oneOr, List.take_succ_cons, List.take_zero, List.drop_succ_cons, List.drop_zero, List.nil_append, List.cons_append, Option.getD_some, Nat.reduceAdd, Nat.reduceLeDiff, List.append_nil, and_self, List.all_cons, List.all_nil])
          exact ⟨.inl rfl, _, .tup [], Sub.refl _, .refl _, hv⟩
  · have d3 : decide (tk = 3) = false := decide_eq_false k3
    rw [if_neg k3]
    (try simp +decide (implicitDefEqProofs := false) only [go_sem, ↓stk_g, ↓stk_c, ↓reduceIte, hbs, d1, d2, d3, lay, oneOr, List.take_succ_cons, List.take_zero, List.drop_succ_cons, List.drop_zero, List.nil_append, List.cons_append, Option.getD_some, Nat.reduceAdd, Nat.reduceLeDiff, List.append_nil, and_self, List.all_cons, List.all_nil])
    exact ⟨.inl rfl, _, .tup [], Sub.refl _, .refl _, _, _, h1⟩
/-- A builder behind so many tokens. -/
structure TI (n : Nat) (x : FB) : Prop where
  fw : FW x
  len : x.l.length ≤ n
  deep : x.op.length ≤ n
  txt : ∀ f ∈ x.l, f.text.size ≤ n * 6000
theorem TI.up {n : Nat} {x : FB} (h : TI n x) : TI (n + 1) x := ⟨h.fw, Nat.le_succ_of_le h.len, Nat.le_succ_of_le h.deep, fun f hf => Nat.le_trans (h.txt f hf) (by omega)⟩
theorem TI.put {n : Nat} {x : FB} (h : TI n x) (hn : n < 100000) (nm tx : Str) (ats : List Attr) (ht : tx.size ≤ 6000) : TI (n + 1) (putF nm ats tx x) := by
  have h1 := h.len
  refine ⟨h.fw.put (by omega) _ _ _, by simp [putF]; omega, Nat.le_succ_of_le h.deep, fun f hf => ?_⟩
  simp only [putF, List.mem_append, List.mem_singleton] at hf
  have hm : n * 6000 ≤ (n + 1) * 6000 := Nat.mul_le_mul_right 6000 (Nat.le_succ n)
  have h6 : 6000 ≤ (n + 1) * 6000 := Nat.le_mul_of_pos_left 6000 (Nat.succ_pos n)
  rcases hf with hf | rfl
  · exact Nat.le_trans (h.txt f hf) hm
  · exact Nat.le_trans ht h6
theorem TI.shut {n : Nat} {x : FB} (h : TI n x) {op : List Nat} (hm : ∀ o, o ∈ op → o ∈ x.op) (hl : op.length ≤ x.op.length) : TI n ⟨x.l, op, x.bad⟩ :=
  ⟨h.fw.sub hm hl, h.len, Nat.le_trans hl h.deep, h.txt⟩
theorem TI.close {n : Nat} {x : FB} (h : TI n x) (nm : Str) : TI n (closeF nm x) := h.shut (fun o => mem_closeR) (closeR_len _ _ _)
theorem TI.start {n : Nat} {x : FB} (h : TI n x) (hn : n < 100000) (nm : Str) (ats : List Attr) : TI (n + 1) (startF nm ats x) := by
  have hl := h.len
  have hd := h.deep
  have hf := h.fw.start (by omega) (by omega) nm ats
  have h1 : TI n ⟨x.l, op1R nm x.l x.op, x.bad⟩ := h.shut (fun o => mem_op1R) (op1_len _ _ _)
  have h2 : TI n ⟨x.l, op2R nm x.l (op1R nm x.l x.op), x.bad⟩ := h1.shut (fun o => mem_op2R) (op2_len _ _ _)
  unfold startF at hf ⊢
  generalize op2R nm x.l (op1R nm x.l x.op) = op at h2 hf ⊢
  have h3 := h2.put hn nm ByteArray.empty ats (by simp [ByteArray.size_empty])
  split
  · exact h3
  · rename_i hv
    rw [if_neg hv] at hf
    refine ⟨hf, h3.len, ?_, h3.txt⟩
    have := h2.deep
    simp [openF, putF] at this ⊢
    exact this
theorem TI.take {n : Nat} {x : FB} (h : TI n x) (hn : n < 100000) (t : Token) (ht : t.text.size ≤ 6000) : TI (n + 1) (takeF t x) := by
  unfold takeF
  split
  · unfold textF
    split
    · exact h.up
    · split
      · rename_i hc
        have hlu := lastUp_lt x.l (hereR x.op) x.l.length
        generalize lastUp x.l (hereR x.op) x.l.length = k at hlu hc
        rcases hlu with rfl | ⟨m, rfl, hm⟩
        · omega
        · rw [Int.toNat_natCast]
          have hsl : (sayF m t.text x.l).length = x.l.length := by simp [sayF]
          refine ⟨⟨fun o ho => by rw [hsl]; exact h.fw.inn o ho, by rw [hsl]; exact h.fw.len, h.fw.deep⟩, by rw [hsl]; exact Nat.le_succ_of_le h.len, Nat.le_succ_of_le h.deep, fun f hf => ?_⟩
          obtain ⟨i, hi, rfl⟩ := List.mem_iff_getElem.1 hf
          simp only [sayF, List.getElem_modify]
          have hi : i < x.l.length := by rw [← hsl]; exact hi
          have := h.txt _ (List.getElem_mem hi)
          have hm : n * 6000 + 6000 = (n + 1) * 6000 := (Nat.succ_mul n 6000).symm
          split
          · rename_i e; subst e
            simp only [Fl.say, ByteArray.size_append]
            rw [← hm]
            exact Nat.add_le_add this ht
          · rw [← hm]; exact Nat.le_add_right_of_le this
      · exact h.put hn _ _ _ ht
  · split
    · exact h.start hn _ _
    · split
      · unfold endF
        split
        · exact (h.close _).up
        · split
          · exact (h.start hn _ _).close _
          · split
            · exact h.start hn _ _
            · exact h.up
      · exact h.up
end Go.Proofs.Ytidicfdcjoggpaa.M
