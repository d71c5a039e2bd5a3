/-
  The document's tree builder, what writes: walked.
-/
import Derived.Test.YtidicfdcjoggpaaDbRead
import Derived.Test.YtidicfdcjoggpaaDomRefBlock
namespace Go.Proofs.Ytidicfdcjoggpaa.M
open Go.RowKit
attribute [local go_sem] stk_nil stk_skip stk_ops stk_seq stk_block stk_scope stk_exit stk_ret stk_code_exit stk_code_ret stk_ops_exit stk_ops_ret stk_endb stk_endb_exit stk_endb_ret stk_endl stk_endl_exit stk_endl_ret stk_ops_nil stk_q stk_niq niqA flip srcOf stk_bsl side val bside bval uside uval cside cval bndS bndV intA isInt lside lval fside fval faside faval iside ival sxside sxval sizeA slside slval llside llval lenside lenval lenA tupA mmside mmval nkside boolA isBool ev_t ev_c tget put_s put_n lkside lkval menval stk_mk Option.isSome_some isMapA mapA keyA FZ_rfl FZ_any retOf true_and and_true if_true if_false decide_true decide_false Bool.not_true Bool.not_false Nat.zero_add List.map_cons List.map_nil Int.toNat_natCast strRows_len intRows_len List.getD_cons_zero List.getD_cons_succ List.length_cons List.length_nil List.forall_mem_cons List.not_mem_nil false_implies implies_true Int.ofNat_zero Int.natCast_add Int.natCast_one Int.ofNat_one Int.natCast_zero isB isU Bool.false_eq_true beq_self_eq_true Bool.false_beq Bool.true_beq Int.natCast_nonneg undef strRows_take strRows_drop Int.toNat_zero List.drop_zero Bool.and_true oneOr List.all_cons List.all_nil AVal.one Value.oneCell' Bool.true_and List.take_length stk_st' stside stH hp_self hp_hp isnside isnval
set_option linter.unusedVariables false
set_option linter.unusedSimpArgs false
/-- A row of the call's own, of which a beginning is told. -/
inductive RowP (H : AHeap) (E sz : Nat) : AVal → List (List AVal) → Prop
  | nil : RowP H E sz (.v (.slice none 0 0)) []
  | bs {g n : Nat} {rows rg : List (List AVal)} (h : H g = some (.buf E sz rg)) (hn : n ≤ rg.length) (ht : rows = rg.take n) : RowP H E sz (.bs g sz n) rows
theorem RowP.kept {H H2 : AHeap} {E sz : Nat} {x : AVal} {rows : List (List AVal)} (h : RowP H E sz x rows) (hk : ∀ c o, H c = some o → blkOf x = some c → H2 c = some o) : RowP H2 E sz x rows := by
  cases h with
  | nil => exact .nil
  | bs h hn ht => exact .bs (hk _ _ h rfl) hn ht
theorem RowP.fz {H : AHeap} {E sz : Nat} {x : AVal} {rows : List (List AVal)} (h : RowP H E sz x rows) (hg : Good sz rows) : FZ H AHeap.none x (.sl false sz rows) := by
  cases h with
  | nil => exact .nil sz
  | @bs g n rows rg h hn ht =>
    have hl : rows.length = n := by rw [ht, List.length_take]; omega
    refine .buf h rfl hn hl (fun i hi => (hg _ (List.getElem_mem hi)).1) (fun i hi j hj => (hg _ (List.getElem_mem hi)).2 _ (List.getElem_mem hj)) (fun i hi hi' j hj hj' => ?_)
    have e : rg[i] = rows[i] := by subst ht; simp
    have e2 : rg[i][j] = rows[i][j] := by simp only [e]
    rw [e2]; exact .refl _
theorem aapp_rowP {H : AHeap} {E sz b : Nat} {x : AVal} {rows new : List (List AVal)} {K : AVal → AHeap → Prop} (hr : RowP H E sz x rows) (hne : new ≠ []) (hb : (rows.length + new.length) * b ≤ 140737488355328)
    (hK : ∀ g H', H' g = some (.buf E sz (rows ++ new)) → Rest H H' x → K (.bs g sz (rows.length + new.length)) H') : aapp H E sz b x new K := by
  refine ⟨fun e => absurd e hne, fun _ => ?_⟩
  cases hr with
  | nil =>
    refine ⟨by simpa using hb, fun g hg => ?_⟩
    have := hK g (H.put g (.buf E sz new)) (by rw [put_self]; rfl) (fun b o h _ => ?_)
    · simpa using this
    · rw [put_ne]; exact h
      intro e; rw [e, hg] at h; cases h
  | @bs g n rows rg h hn ht =>
    have hl : rows.length = n := by rw [ht, List.length_take]; omega
    simp only [h]
    refine ⟨⟨trivial, trivial, trivial, hn, by rw [← hl]; exact hb⟩, fun g' hg' => ?_⟩
    rw [← ht, ← hl]
    refine hK _ _ (put_self _ _ _) (fun b o h2 hne => ?_)
    have hbg : b ≠ g := fun e => hne (by rw [e]; rfl)
    have hd : (H.del g) b = H b := by simp [AHeap.del, hbg]
    rw [put_ne, hd]; exact h2
    intro e; rw [e] at hd; rw [hd, ← e, h2] at hg'; cases hg'
theorem stk_appP {P : Program} {W : World} {k : List Item} {Q : Exit → AState → Prop} {s : AState} {d : Option Nat} {E sz b : Nat} {st : Bool} {x y : Operand} {r : List AOper} {rows new : List (List AVal)} (hr : RowP s.H E sz (ev s.tm x) rows) (hs : srcOf s.H sz (ev s.tm y) = some new) (hne : new ≠ []) (hb : (rows.length + new.length) * b ≤ 140737488355328)
    (hK : ∀ g H', H' g = some (.buf E sz (rows ++ new)) → Rest s.H H' (ev s.tm x) → stk P W (.ops r :: k) Q .normal ((⟨s.tm, H'⟩ : AState).put d (.bs g sz (rows.length + new.length)))) : stk P W (.ops (⟨d, none, .e (.app E sz b st x y)⟩ :: r) :: k) Q .normal s := by
  show rops P W (⟨d, none, .e (.app E sz b st x y)⟩ :: r) s _
  exact ⟨new, hs, aapp_rowP hr hne hb hK⟩
theorem RowO.toP {H : AHeap} {E sz : Nat} {x : AVal} {rows : List (List AVal)} (h : RowO H E sz x rows) : RowP H E sz x rows := by
  cases h with
  | nil => exact .nil
  | bs h hn => exact .bs h (by omega) (by rw [hn, List.take_length])
abbrev tB : Nat := 59
abbrev tF : Nat := 74
abbrev tI : Nat := 3
/-- A builder that is owned. -/
structure FBH (H : AHeap) (g : Nat) (x : FB) (X Y : AVal) : Prop where
  here : H g = some (.cells tB [X, Y, .v (.bool x.bad)])
  rx : RowO H tF 5 X (x.l.map flRow)
  ry : RowP H tI 1 Y (x.op.reverse.map natRow)
def FBo (H : AHeap) (g : Nat) (x : FB) : Prop := ∃ X Y, FBH H g x X Y
theorem flGood (l : List Fl) : Good 5 (l.map flRow) := by
  intro r hr
  obtain ⟨x, _, rfl⟩ := List.mem_map.1 hr
  exact ⟨rfl, fun y hy => by simp [flRow] at hy; rcases hy with rfl | rfl | rfl | rfl | rfl <;> rfl⟩
theorem natGood (l : List Nat) : Good 1 (l.map natRow) := by
  intro r hr
  obtain ⟨x, _, rfl⟩ := List.mem_map.1 hr
  exact ⟨rfl, fun y hy => by simp [natRow] at hy; subst hy; rfl⟩
theorem FBH.view {H : AHeap} {g : Nat} {x : FB} {X Y : AVal} (h : FBH H g x X Y) : FZ H AHeap.none (.v (.pointer (some ⟨g, 0, none⟩))) (.pl (fbCells x)) := by
  refine .cells h.here rfl rfl (fun j hj hj' => ?_)
  rcases j with _ | _ | _ | j
  · exact h.rx.row.fz (flGood _) (fun _ _ => rfl)
  · exact h.ry.fz (natGood _)
  · exact .refl _
  · simp at hj; omega
theorem FBH.new {H : AHeap} {g b : Nat} {x : FB} {X Y : AVal} {o : AObj} (h : FBH H g x X Y) (hb : H b = none) : FBH (H.put b o) g x X Y := by
  have hk : ∀ c o', H c = some o' → (H.put b o) c = some o' := fun c o' hc => (hp_ne _ _ (fun e => by rw [e, hb] at hc; cases hc)).trans hc
  exact ⟨hk _ _ h.here, h.rx.kept fun c o' hc _ => hk c o' hc, h.ry.kept fun c o' hc _ => hk c o' hc⟩
theorem RowO.blk2 {H : AHeap} {E sz c : Nat} {x : AVal} {rows : List (List AVal)} (h : RowO H E sz x rows) (hb : blkOf x = some c) : H c = some (.buf E sz rows) := by
  cases h with
  | nil => cases hb
  | bs h hn => cases hb; exact h
theorem RowP.blk2 {H : AHeap} {E sz c : Nat} {x : AVal} {rows : List (List AVal)} (h : RowP H E sz x rows) (hb : blkOf x = some c) : ∃ rg, H c = some (.buf E sz rg) := by
  cases h with
  | nil => cases hb
  | bs h hn ht => cases hb; exact ⟨_, h⟩
theorem FBH.ax {H : AHeap} {g : Nat} {x : FB} {X Y : AVal} (h : FBH H g x X Y) : blkOf X ≠ some g := fun e => by have := h.rx.blk2 e; rw [h.here] at this; cases this
theorem FBH.ay {H : AHeap} {g : Nat} {x : FB} {X Y : AVal} (h : FBH H g x X Y) : blkOf Y ≠ some g := fun e => by obtain ⟨_, this⟩ := h.ry.blk2 e; rw [h.here] at this; cases this
theorem FBH.axy {H : AHeap} {g : Nat} {x : FB} {X Y : AVal} (h : FBH H g x X Y) (c : Nat) (hc : blkOf Y = some c) : blkOf X ≠ some c := fun e => by
  obtain ⟨_, h1⟩ := h.ry.blk2 hc
  rw [h.rx.blk2 e] at h1
  have : tF = tI := by cases h1
  exact absurd this (by decide)
/-- Its cells are set anew. -/
theorem FBH.set {H2 : AHeap} {g : Nat} {x' : FB} {X' Y' : AVal} (hg : ∃ c, H2 g = some (.cells tB c)) (rx : RowO H2 tF 5 X' (x'.l.map flRow)) (ry : RowP H2 tI 1 Y' (x'.op.reverse.map natRow)) :
    FBH (H2.put g (.cells tB [X', Y', .v (.bool x'.bad)])) g x' X' Y' := by
  obtain ⟨c, hg⟩ := hg
  refine ⟨hp_self _ _ _, rx.kept fun c o hc hb => (hp_ne _ _ fun e => ?_).trans hc, ry.kept fun c o hc hb => (hp_ne _ _ fun e => ?_).trans hc⟩
  · have := rx.blk2 hb; rw [e, hg] at this; cases this
  · obtain ⟨_, this⟩ := ry.blk2 hb; rw [e, hg] at this; cases this
theorem RowO.some {H : AHeap} {E sz : Nat} {x : AVal} {rows : List (List AVal)} (h : RowO H E sz x rows) (hn : rows ≠ []) : ∃ g, x = .bs g sz rows.length ∧ H g = some (.buf E sz rows) := by
  cases h with
  | nil => exact absurd rfl hn
  | bs h hn => exact ⟨_, by rw [hn], h⟩
def c_put04 : AFn := ⟨2, 26, [],
  .seq (.ops [⟨(some 3), none, .e (.box 37 (.tmp 1))⟩])
  (.seq (.ops [⟨(some 4), none, .q (.mv (.tmp 0))⟩,
      ⟨(some 5), none, .q (.mv (.tmp 0))⟩,
      ⟨(some 6), none, .q (.nck (.tmp 5))⟩,
      ⟨(some 7), none, .q (.fad 0 1 (.tmp 6))⟩,
      ⟨(some 8), none, .q (.ld false 1 (.tmp 7))⟩,
      ⟨(some 9), none, .q (.ld true 4 (.tmp 3))⟩,
      ⟨(some 10), none, .q (.mv (.tmp 0))⟩,
      ⟨(some 11), none, .e (.callq 47 [(.tmp 10)])⟩,
      ⟨(some 12), none, .q (.bld [(.string ByteArray.empty), (.slice none 0 0), (.string ByteArray.empty), (.slice none 0 0), (.int .i64 0)] [(0, 4, (.tmp 9)), (4, 1, (.tmp 11))])⟩,
      ⟨(some 13), none, .e (.bsl 74 5 [(.tmp 12)])⟩,
      ⟨(some 14), none, .e (.app 74 5 88 false (.tmp 8) (.tmp 13))⟩,
      ⟨(some 15), none, .q (.nck (.tmp 4))⟩,
      ⟨(some 16), none, .q (.fad 0 1 (.tmp 15))⟩,
      ⟨none, none, .e (.st 1 (.tmp 16) (.tmp 14))⟩])
  (.seq (.ops [⟨(some 17), none, .q (.mv (.tmp 0))⟩,
      ⟨(some 18), none, .q (.nck (.tmp 17))⟩,
      ⟨(some 19), none, .q (.fad 0 1 (.tmp 18))⟩,
      ⟨(some 20), none, .q (.ld false 1 (.tmp 19))⟩,
      ⟨(some 21), none, .q (.len false (.tmp 20))⟩,
      ⟨(some 22), none, .q (.bin .gtr .num (.tmp 21) (.const (.int .i64 2000)))⟩])
  (.cond (.tmp 22)
    (.ops [⟨(some 23), none, .q (.mv (.tmp 0))⟩,
        ⟨(some 24), none, .q (.nck (.tmp 23))⟩,
        ⟨(some 25), none, .q (.fad 2 1 (.tmp 24))⟩,
        ⟨none, none, .e (.st 1 (.tmp 25) (.const (.bool true)))⟩])
    (.skip)))), []⟩
theorem k_put04 : compF Try.prog 43 = some c_put04 := by kernel_rfl
set_option maxHeartbeats 4000000 in
theorem put04_ok {W : World} (x : FB) (hx : FW x) {H : AHeap} {g : Nat} (h : FBo H g x) (nm tx : Str) (ats : List Attr) :
    ACalls Try.prog W 43 [.v (.pointer (some ⟨g, 0, none⟩)), .agg [.v (.string nm), .sl false 2 (ats.map attrRow), .v (.string tx), .v (.slice none 0 0)]] H fun _ H' => FBo H' g (putF nm ats tx x) := by
  obtain ⟨X, Y, h⟩ := h
  have hl := hx.len
  refine fn_run follows k_put04 rfl ?_
  simp only [c_put04, aretC_nil, List.zipIdx_cons, List.zipIdx_nil, List.map_cons, List.map_nil, Nat.zero_add]
  (try simp +decide (implicitDefEqProofs := false) only [go_sem, ↓stk_g, ↓stk_c, ↓reduceIte, lay, oneOr, List.take_succ_cons, List.take_zero, List.drop_succ_cons, List.drop_zero, List.nil_append, List.cons_append, Option.getD_some, Nat.reduceAdd, Nat.reduceLeDiff, List.append_nil, and_self, List.all_cons, List.all_nil])
  rw [stk_box]
  refine ⟨by rfl, fun b hb => ?_⟩
  have hb : H b = none := hb
  have h1 := h.new (o := .cells 37 [.v (.string nm), .sl false 2 (ats.map attrRow), .v (.string tx), .v (.slice none 0 0)]) hb
  have hbs := hp_self H b (.cells 37 [.v (.string nm), .sl false 2 (ats.map attrRow), .v (.string tx), .v (.slice none 0 0)])
  have hg1 := h1.here
  show stk _ _ _ _ _ (AState.put ⟨_, H.put b (.cells 37 [.v (.string nm), .sl false 2 (ats.map attrRow), .v (.string tx), .v (.slice none 0 0)])⟩ _ _)
  generalize H.put b (.cells 37 [.v (.string nm), .sl false 2 (ats.map attrRow), .v (.string tx), .v (.slice none 0 0)]) = H1 at h1 hbs hg1 ⊢
  (try simp +decide (implicitDefEqProofs := false) only [go_sem, ↓stk_g, ↓stk_c, ↓reduceIte, hg1, hbs, lay, oneOr, List.take_succ_cons, List.take_zero, List.drop_succ_cons, List.drop_zero, List.nil_append, List.cons_append, Option.getD_some, Nat.reduceAdd, Nat.reduceLeDiff, List.append_nil, and_self, List.all_cons, List.all_nil])
  refine stk_callqR [.pl (fbCells x)] (FZs.cons h1.view FZs.nil) (here_ok x hx) (fun v hv => by subst hv; rfl) fun v hv => ?_
  subst hv
  (try simp +decide (implicitDefEqProofs := false) only [go_sem, ↓stk_g, ↓stk_c, ↓reduceIte, hg1, hbs, lay, oneOr, List.take_succ_cons, List.take_zero, List.drop_succ_cons, List.drop_zero, List.nil_append, List.cons_append, Option.getD_some, Nat.reduceAdd, Nat.reduceLeDiff, List.append_nil, and_self, List.all_cons, List.all_nil])
  refine stk_appO (rows := x.l.map flRow) h1.rx (by rfl) (by simp only [List.length_map, List.length_cons, List.length_nil]; omega) fun X1 H2 hr1 hrest => ?_
  have hrows : x.l.map flRow ++ [[AVal.v (.string nm), AVal.sl false 2 (ats.map attrRow), AVal.v (.string tx), AVal.v (.slice none 0 0), AVal.v (.int .i64 (hereR x.op))]] = (putF nm ats tx x).l.map flRow := by simp [putF, flRow]
  have hr1 : RowO H2 tF 5 X1 ((putF nm ats tx x).l.map flRow) := by rw [← hrows]; exact hr1
  obtain ⟨gx, rfl, hgx⟩ := hr1.some (by simp [putF])
  have hlen : ((putF nm ats tx x).l.map flRow).length = x.l.length + 1 := by simp [putF]
  rw [hlen] at hr1
  rw [hlen]
  have hg2 : H2 g = _ := hrest _ _ hg1 h1.ax
  have hry : RowP H2 tI 1 Y (x.op.reverse.map natRow) := h1.ry.kept fun c o hc hb => hrest c o hc (h1.axy c hb)
  clear hrest hrows hbs hb
  by_cases hbig : 2000 < x.l.length + 1
  · have g1 : (2000 : Int) < (x.l.length : Int) + 1 := by omega
    (try simp +decide (implicitDefEqProofs := false) only [go_sem, ↓stk_g, ↓stk_c, ↓reduceIte, hg2, hlen, hp_self, hp_hp, g1, Int.natCast_add, Int.cast_ofNat_Int, lay, oneOr, List.take_succ_cons, List.take_zero, List.drop_succ_cons, List.drop_zero, List.nil_append, List.cons_append, Option.getD_some, Nat.reduceAdd, Nat.reduceLeDiff, List.append_nil, and_self, List.all_cons, List.all_nil])
    refine ⟨.inl rfl, _, .tup [], Sub.refl _, .refl _, .bs gx 5 (x.l.length + 1), Y, ?_⟩
    have := FBH.set (x' := putF nm ats tx x) (X' := .bs gx 5 (x.l.length + 1)) (Y' := Y) ⟨_, hg2⟩ hr1 hry
    have hbd : (putF nm ats tx x).bad = true := by simp [putF, hbig]
    rw [hbd] at this
    exact this
  · have g1 : ¬ (2000 : Int) < (x.l.length : Int) + 1 := by omega
    (try simp +decide (implicitDefEqProofs := false) only [go_sem, ↓stk_g, ↓stk_c, ↓reduceIte, hg2, hlen, hp_self, hp_hp, g1, Int.natCast_add, Int.cast_ofNat_Int, lay, oneOr, List.take_succ_cons, List.take_zero, List.drop_succ_cons, List.drop_zero, List.nil_append, List.cons_append, Option.getD_some, Nat.reduceAdd, Nat.reduceLeDiff, List.append_nil, and_self, List.all_cons, List.all_nil])
    refine ⟨.inl rfl, _, .tup [], Sub.refl _, .refl _, .bs gx 5 (x.l.length + 1), Y, ?_⟩
    have := FBH.set (x' := putF nm ats tx x) (X' := .bs gx 5 (x.l.length + 1)) (Y' := Y) ⟨_, hg2⟩ hr1 hry
    have hbd : (putF nm ats tx x).bad = x.bad := by simp [putF, hbig]
    rw [hbd] at this
    exact this
theorem refBlock_ok {W : World} (nm : Str) : ACalls Try.prog W 20 [.v (.string nm)] AHeap.none fun v _ => v = .v (.bool (isBlock nm)) :=
  lift_one (fun S w u hu => by cases hu; exact (refBlock_any w nm).mono fun e w' h => ⟨h.1, h.2.below⟩) (fun S w => .v _)
theorem refVoid_ok {W : World} (nm : Str) : ACalls Try.prog W 18 [.v (.string nm)] AHeap.none fun v _ => v = .v (.bool (isVoid nm)) :=
  lift_one (fun S w u hu => by cases hu; exact (refVoid_any w nm).mono fun e w' h => ⟨h.1, h.2.below⟩) (fun S w => .v _)
theorem cutR_rev {op : List Nat} {k : Nat} (h : k ≤ op.length + 1) : (cutR op k).reverse = op.reverse.take (k - 1) := by
  unfold cutR
  rw [List.reverse_drop]; congr 1; omega
theorem mem_cutR {op : List Nat} {k o : Nat} (h : o ∈ cutR op k) : o ∈ op := List.mem_of_mem_drop h
theorem cutR_le (op : List Nat) (k : Nat) : (cutR op k).length ≤ op.length := by unfold cutR; simp
theorem mem_closeR {l : List Fl} {nms : List Str} {op : List Nat} {o : Nat} (h : o ∈ closeR l nms op) : o ∈ op := by
  unfold closeR at h
  split at h
  · exact h
  · exact mem_cutR h
theorem mem_op1R {l : List Fl} {nm : Str} {op : List Nat} {o : Nat} (h : o ∈ op1R nm l op) : o ∈ op := by
  unfold op1R at h
  split at h
  · exact mem_closeR h
  · exact h
theorem mem_op2R {l : List Fl} {nm : Str} {op : List Nat} {o : Nat} (h : o ∈ op2R nm l op) : o ∈ op := by
  unfold op2R at h
  split at h
  · exact mem_cutR h
  · exact h
theorem FW.sub {x : FB} (h : FW x) {op : List Nat} {b : Bool} (hm : ∀ o, o ∈ op → o ∈ x.op) (hl : op.length ≤ x.op.length) : FW ⟨x.l, op, b⟩ :=
  ⟨fun o ho => h.inn o (hm o ho), h.len, Nat.le_trans hl h.deep⟩
theorem FW.close {x : FB} (h : FW x) (nm : Str) : FW (closeF nm x) := h.sub (fun o => mem_closeR) (closeR_len _ _ _)
theorem FW.op1 {x : FB} (h : FW x) (nm : Str) : FW ⟨x.l, op1R nm x.l x.op, x.bad⟩ := h.sub (fun o => mem_op1R) (op1_len _ _ _)
theorem FW.op2 {x : FB} (h : FW x) (nm : Str) : FW ⟨x.l, op2R nm x.l x.op, x.bad⟩ := h.sub (fun o => mem_op2R) (op2_len _ _ _)
theorem FW.put {x : FB} (h : FW x) (hl : x.l.length + 1 ≤ 1000000) (nm tx : Str) (ats : List Attr) : FW (putF nm ats tx x) :=
  ⟨fun o ho => by have := h.inn o ho; simp [putF]; omega, by simpa [putF] using hl, h.deep⟩
theorem RowP.some {H : AHeap} {E sz : Nat} {x : AVal} {rows : List (List AVal)} (h : RowP H E sz x rows) (hn : rows ≠ []) : ∃ g rg, x = .bs g sz rows.length ∧ H g = Option.some (.buf E sz rg) ∧ rows.length ≤ rg.length ∧ rows = rg.take rows.length := by
  cases h with
  | nil => exact absurd rfl hn
  | @bs g n rows rg h hn ht =>
    have hl : rows.length = n := by rw [ht, List.length_take]; omega
    exact ⟨g, rg, by rw [hl], h, by omega, by rw [hl]; exact ht⟩
theorem RowP.cut {H : AHeap} {E sz g m : Nat} {rows rg : List (List AVal)} (hg : H g = Option.some (.buf E sz rg)) (hl : rows.length ≤ rg.length) (ht : rows = rg.take rows.length) (hm : m ≤ rows.length) : RowP H E sz (.bs g sz m) (rows.take m) :=
  .bs hg (by omega) (by rw [ht, List.take_take, Nat.min_eq_left hm])
def c_close04 : AFn := ⟨2, 22, [4],
  .seq (.ops [⟨(some 4), none, .q (.mv (.const (.bool false)))⟩])
  (.seq (.ops [⟨(some 6), none, .q (.mv (.tmp 0))⟩,
      ⟨(some 7), none, .q (.mv (.tmp 1))⟩,
      ⟨(some 8), none, .e (.bsl 9 1 [(.tmp 7)])⟩,
      ⟨(some 9), none, .e (.call 48 [(.tmp 6), (.tmp 8)])⟩,
      ⟨(some 5), none, .q (.mv (.tmp 9))⟩])
  (.seq (.seq (.ops [⟨(some 10), none, .q (.mv (.tmp 5))⟩,
      ⟨(some 11), none, .q (.bin .eql .num (.tmp 10) (.const (.int .i64 0)))⟩])
  (.cond (.tmp 11)
    (.seq (.ops [⟨(some 4), none, .q (.mv (.const (.bool false)))⟩])
    (.ret))
    (.skip)))
  (.seq (.ops [⟨(some 12), none, .q (.mv (.tmp 0))⟩,
      ⟨(some 13), none, .q (.mv (.tmp 0))⟩,
      ⟨(some 14), none, .q (.nck (.tmp 13))⟩,
      ⟨(some 15), none, .q (.fad 1 1 (.tmp 14))⟩,
      ⟨(some 16), none, .q (.ld false 1 (.tmp 15))⟩,
      ⟨(some 17), none, .q (.mv (.tmp 5))⟩,
      ⟨(some 18), none, .q (.bin .sub .num (.tmp 17) (.const (.int .i64 1)))⟩,
      ⟨(some 19), none, .q (.lsl 1 (.tmp 16) none (some (.tmp 18)) none)⟩,
      ⟨(some 20), none, .q (.nck (.tmp 12))⟩,
      ⟨(some 21), none, .q (.fad 1 1 (.tmp 20))⟩,
      ⟨none, none, .e (.st 1 (.tmp 21) (.tmp 19))⟩])
  (.seq (.ops [⟨(some 4), none, .q (.mv (.const (.bool true)))⟩])
  (.ret))))), []⟩
theorem k_close04 : compF Try.prog 45 = some c_close04 := by kernel_rfl
set_option maxHeartbeats 4000000 in
theorem close04_ok {W : World} (x : FB) (hx : FW x) {H : AHeap} {g : Nat} (h : FBo H g x) (nm : Str) :
    ACalls Try.prog W 45 [.v (.pointer (some ⟨g, 0, none⟩)), .v (.string nm)] H fun v H' => v = .v (.bool (decide (0 < innerR x.l [nm] x.op))) ∧ FBo H' g (closeF nm x) := by
  obtain ⟨X, Y, h⟩ := h
  have hle := innerR_le x.l [nm] x.op
  have hd := hx.deep
  have hin := inner04_ok (W := W) x hx true [nm] (by simp)
  have hg := h.here
  have hcl : closeF nm x = ⟨x.l, closeR x.l [nm] x.op, x.bad⟩ := rfl
  rw [hcl]
  unfold closeR
  refine fn_run follows k_close04 rfl ?_
  simp only [c_close04, aretC_nil, List.zipIdx_cons, List.zipIdx_nil, List.map_cons, List.map_nil, Nat.zero_add]
  (try simp +decide (implicitDefEqProofs := false) only [go_sem, ↓stk_g, ↓stk_c, ↓reduceIte, lay, oneOr, List.take_succ_cons, List.take_zero, List.drop_succ_cons, List.drop_zero, List.nil_append, List.cons_append, Option.getD_some, Nat.reduceAdd, Nat.reduceLeDiff, List.append_nil, and_self, List.all_cons, List.all_nil])
  refine stk_callR [.pl (fbCells x), .sl true 1 (strRows [nm])] (FZs.cons h.view (FZs.cons (.refl _) FZs.nil)) hin (fun v hv => by subst hv; rfl) fun v hv => ?_
  subst hv
  generalize innerR x.l [nm] x.op = k at hle ⊢
  by_cases hk : k = 0
  · subst hk
    (try simp +decide (implicitDefEqProofs := false) only [go_sem, ↓stk_g, ↓stk_c, ↓reduceIte, lay, oneOr, List.take_succ_cons, List.take_zero, List.drop_succ_cons, List.drop_zero, List.nil_append, List.cons_append, Option.getD_some, Nat.reduceAdd, Nat.reduceLeDiff, List.append_nil, and_self, List.all_cons, List.all_nil])
    refine ⟨.inr rfl, _, _, Sub.refl _, .refl _, rfl, _, _, h⟩
  · have d : decide ((k : Int) = 0) = false := decide_eq_false (by omega)
    obtain ⟨gy, rg, rfl, hgy, hrl, hrt⟩ := h.ry.some (fun e => by have := congrArg List.length e; simp at this; rw [this] at hle; simp at hle; omega)
    have hlen : (x.op.reverse.map natRow).length = x.op.length := by simp
    rw [hlen] at hrl hrt hg h
    obtain ⟨m, hm⟩ : ∃ m, k = m + 1 := ⟨k - 1, by omega⟩
    have hw : IntKind.i64.wrap ((k : Int) - 1) = (m : Int) := wrap_of (by omega) (by omega) (by omega)
    have hgg : gy ≠ g := fun e => by subst e; rw [hg] at hgy; cases hgy
    (try simp +decide (implicitDefEqProofs := false) only [go_sem, ↓stk_g, ↓stk_c, ↓reduceIte, d, hg, hgy, hw, lay, oneOr, List.take_succ_cons, List.take_zero, List.drop_succ_cons, List.drop_zero, List.nil_append, List.cons_append, Option.getD_some, Nat.reduceAdd, Nat.reduceLeDiff, List.append_nil, and_self, List.all_cons, List.all_nil])
    refine ⟨by omega, .inr rfl, _, _, Sub.refl _, .refl _, by rw [decide_eq_true (by omega)]; rfl, X, .bs gy 1 m, ?_⟩
    have hc : (cutR x.op k).reverse.map natRow = (x.op.reverse.map natRow).take m := by rw [cutR_rev (by omega), List.map_take, show k - 1 = m by omega]
    have := FBH.set (x' := ⟨x.l, cutR x.op k, x.bad⟩) (X' := X) (Y' := .bs gy 1 m) ⟨_, hg⟩ h.rx (by rw [hc]; exact RowP.cut hgy (by rw [hlen]; exact hrl) (by rw [hlen]; exact hrt) (by rw [hlen]; omega))
    rw [if_neg hk]
    exact this
end Go.Proofs.Ytidicfdcjoggpaa.M
