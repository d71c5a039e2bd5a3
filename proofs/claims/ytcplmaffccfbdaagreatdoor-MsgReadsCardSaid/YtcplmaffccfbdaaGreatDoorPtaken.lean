/-
  policy.taken: a line's words laid into a policy that is owned.
-/
import Derived.Test.YtcplmaffccfbdaaGreatDoorPatoi
import Derived.Test.YtcplmaffccfbdaaGreatDoorPc
namespace Go.Proofs.YtcplmaffccfbdaaGreatDoor.M
open Go.RowKit
attribute [local go_sem] stk_nil stk_skip stk_ops stk_seq stk_block stk_scope stk_exit stk_ret stk_code_exit stk_code_ret stk_ops_exit stk_ops_ret stk_endb stk_endb_exit stk_endb_ret stk_endl stk_endl_exit stk_endl_ret stk_ops_nil stk_q stk_niq niqA flip srcOf stk_bsl side val bside bval uside uval cside cval bndS bndV intA isInt lside lval fside fval faside faval iside ival sxside sxval sizeA slside slval llside llval lenside lenval lenA tupA mmside mmval nkside boolA isBool ev_t ev_c tget put_s put_n lkside lkval menval stk_mk Option.isSome_some isMapA mapA keyA FZ_rfl FZ_any retOf true_and and_true if_true if_false decide_true decide_false Bool.not_true Bool.not_false Nat.zero_add List.map_cons List.map_nil Int.toNat_natCast strRows_len intRows_len List.getD_cons_zero List.getD_cons_succ List.length_cons List.length_nil List.forall_mem_cons List.not_mem_nil false_implies implies_true Int.ofNat_zero Int.natCast_add Int.natCast_one Int.ofNat_one Int.natCast_zero isB isU Bool.false_eq_true beq_self_eq_true Bool.false_beq Bool.true_beq Int.natCast_nonneg undef strRows_take strRows_drop Int.toNat_zero List.drop_zero Bool.and_true oneOr List.all_cons List.all_nil AVal.one Value.oneCell' Bool.true_and List.take_length stk_st' stside stH hp_self hp_hp isnside isnval lay List.take_succ_cons List.take_zero List.drop_succ_cons List.nil_append List.cons_append Option.getD_some List.append_nil and_self
set_option linter.unusedVariables false
set_option linter.unusedSimpArgs false
/-- An append to an owned row; its new place is none of the others'. -/
theorem aapp_rowX {H : AHeap} {E sz b : Nat} {x : AVal} {rows new : List (List AVal)} {K : AVal → AHeap → Prop} (hr : RowO H E sz x rows) (hb : (rows.length + new.length) * b ≤ 140737488355328)
    (hK : ∀ x' H', RowO H' E sz x' (rows ++ new) → Rest H H' x → (∀ c o, H c = some o → blkOf x ≠ some c → blkOf x' ≠ some c) → K x' H') : aapp H E sz b x new K := by
  constructor
  · rintro rfl
    refine ⟨?_, hK x H (by simpa using hr) (fun b o h _ => h) (fun c o _ h => h)⟩
    cases hr <;> rfl
  · intro hne
    cases hr with
    | nil =>
      refine ⟨by simpa using hb, fun g hg => hK _ _ (.bs (put_self H g _) (by simp)) (fun b o h _ => ?_) (fun c o h _ e => ?_)⟩
      · rw [put_ne]; exact h
        intro e; rw [e, hg] at h; cases h
      · have e2 : g = c := Option.some.inj e
        rw [← e2, hg] at h; cases h
    | @bs g n rows h hn =>
      subst hn
      simp only [h]
      refine ⟨⟨trivial, trivial, trivial, Nat.le_refl _, hb⟩, fun g' hg' => hK _ _ ?_ (fun b o h2 hne => ?_) (fun c o h2 hne e => ?_)⟩
      · rw [List.take_length]
        exact .bs (put_self (H.del g) g' _) (by simp)
      · have hbg : b ≠ g := fun e => hne (by rw [e]; rfl)
        have hd : (H.del g) b = H b := by simp [AHeap.del, hbg]
        rw [put_ne, hd]; exact h2
        intro e; rw [e] at hd; rw [hd, ← e, h2] at hg'; cases hg'
      · have e2 : g' = c := Option.some.inj e
        have hbg : c ≠ g := fun e => hne (by rw [e]; rfl)
        have hd : (H.del g) c = H c := by simp [AHeap.del, hbg]
        rw [e2, hd, h2] at hg'; cases hg'
theorem stk_appX {P : Program} {W : World} {k : List Item} {Q : Exit → AState → Prop} {s : AState} {d : Option Nat} {E sz b : Nat} {st : Bool} {x y : Operand} {r : List AOper} {rows new : List (List AVal)} (hr : RowO s.H E sz (ev s.tm x) rows) (hs : srcOf s.H sz (ev s.tm y) = some new) (hb : (rows.length + new.length) * b ≤ 140737488355328)
    (hK : ∀ x' H', RowO H' E sz x' (rows ++ new) → Rest s.H H' (ev s.tm x) → (∀ c o, s.H c = some o → blkOf (ev s.tm x) ≠ some c → blkOf x' ≠ some c) → stk P W (.ops r :: k) Q .normal ((⟨s.tm, H'⟩ : AState).put d x')) : stk P W (.ops (⟨d, none, .e (.app E sz b st x y)⟩ :: r) :: k) Q .normal s := by
  show rops P W (⟨d, none, .e (.app E sz b st x y)⟩ :: r) s _
  exact ⟨new, hs, aapp_rowX hr hb hK⟩
/-- The blocks of two rows are two. -/
def Apart (x y : AVal) : Prop := ∀ c, blkOf x = some c → blkOf y ≠ some c
theorem Apart.symm {x y : AVal} (h : Apart x y) : Apart y x := fun c h1 h2 => h c h2 h1
/-- A policy that is owned, its lists in rows of their own. -/
structure PolH (H : AHeap) (g : Nat) (p : Pol) (x1 x2 x3 x4 x5 : AVal) : Prop where
  here : H g = some (.cells 25 [.v (.int .i64 p.epoch), x1, x2, x3, x4, x5, .v (.int .i64 p.depth), .v (.int .i64 p.nodes), .v (.int .i64 p.bytes)])
  r1 : RowO H 9 1 x1 (strRows p.elems)
  r2 : RowO H 9 1 x2 (strRows p.attrs)
  r3 : RowO H 9 1 x3 (strRows p.schemes)
  r4 : RowO H 9 1 x4 (strRows p.classes)
  r5 : RowO H 9 1 x5 (strRows p.props)
  a12 : Apart x1 x2
  a13 : Apart x1 x3
  a14 : Apart x1 x4
  a15 : Apart x1 x5
  a23 : Apart x2 x3
  a24 : Apart x2 x4
  a25 : Apart x2 x5
  a34 : Apart x3 x4
  a35 : Apart x3 x5
  a45 : Apart x4 x5
def takenP (p : Pol) (w : List Str) : Pol :=
  let w0 := w.getD 0 ByteArray.empty
  let w1 := w.getD 1 ByteArray.empty
  if w.length = 4 ∧ w0 = (⟨#[99, 97, 112, 115]⟩ : Str) then { p with depth := numP w1, nodes := numP (w.getD 2 ByteArray.empty), bytes := numP (w.getD 3 ByteArray.empty) }
  else if w.length ≠ 2 then p
  else if w0 = (⟨#[101, 112, 111, 99, 104]⟩ : Str) then { p with epoch := numP w1 }
  else if w0 = (⟨#[101, 108, 101, 109]⟩ : Str) then { p with elems := p.elems ++ [w1] }
  else if w0 = (⟨#[97, 116, 116, 114]⟩ : Str) then { p with attrs := p.attrs ++ [w1] }
  else if w0 = (⟨#[115, 99, 104, 101, 109, 101]⟩ : Str) then { p with schemes := p.schemes ++ [w1] }
  else if w0 = (⟨#[99, 108, 97, 115, 115]⟩ : Str) then { p with classes := p.classes ++ [w1] }
  else if w0 = (⟨#[112, 114, 111, 112]⟩ : Str) then { p with props := p.props ++ [w1] }
  else p
def c_taken1 : AFn := ⟨1, 15, [3],
  .seq (.ops [⟨(some 3), none, .q (.mv (.const (.int .i64 0)))⟩])
  (.seq (.ops [⟨(some 7), none, .q (.ld false 1 (.tmp 1))⟩,
      ⟨(some 8), none, .q (.mv (.tmp 0))⟩,
      ⟨(some 9), none, .q (.ixa 1 (.tmp 7) (.tmp 8))⟩,
      ⟨(some 10), none, .q (.ld false 1 (.tmp 9))⟩,
      ⟨(some 11), none, .e (.call 55 [(.tmp 10)])⟩,
      ⟨(some 6), none, .q (.mv (.tmp 11))⟩,
      ⟨(some 12), none, .q (.ext (.tmp 6) 0)⟩,
      ⟨(some 13), none, .q (.ext (.tmp 6) 1)⟩,
      ⟨(some 4), none, .q (.mv (.tmp 12))⟩,
      ⟨(some 5), none, .q (.mv (.tmp 13))⟩])
  (.seq (.ops [⟨(some 14), none, .q (.mv (.tmp 4))⟩,
      ⟨(some 3), none, .q (.mv (.tmp 14))⟩])
  (.ret))), []⟩
theorem k_taken1 : compF Tryz.prog 73 = some c_taken1 := by kernel_rfl
set_option maxHeartbeats 2000000 in
theorem taken1_ok {W : World} (E : Errs W) {H : AHeap} {b T : Nat} {f : Bool} (ws : List Str) (i : Nat) (hb : H b = some (.cells T [.sl f 1 (strRows ws)])) (hi : i < ws.length) (hz : ∀ s ∈ ws, s.size ≤ 1000000000) :
    ACalls Tryz.prog W 73 [.v (.int .i64 (i : Int)), .v (.pointer (some ⟨b, 0, none⟩))] H fun v H' => v = .v (.int .i64 (numP (ws.getD i ByteArray.empty))) ∧ H' = H := by
  refine fn_run follows k_taken1 rfl ?_
  simp only [c_taken1, aretC_nil, List.zipIdx_cons, List.zipIdx_nil, List.map_cons, List.map_nil, Nat.zero_add]
  have g1 : (i : Int) < (ws.length : Int) := by omega
  have g2 : (0 : Int) ≤ (i : Int) := by omega
  have hg := strRows_get hi
  have hget : ws.getD i ByteArray.empty = ws[i] := by simp [hi]
  have hsz := hz (ws.getD i ByteArray.empty) (by rw [hget]; exact List.getElem_mem _)
  (try simp +decide (implicitDefEqProofs := false) only [go_sem, ↓stk_g, ↓stk_c, ↓reduceIte, hb, g1, g2, hi, hg])
  refine stk_pure (atoi_ok E _ hsz) fun v hv => ?_
  obtain ⟨e, rfl, -⟩ := hv
  (try simp +decide (implicitDefEqProofs := false) only [go_sem, ↓stk_g, ↓stk_c, ↓reduceIte])
  exact ⟨.inr rfl, _, _, Sub.refl _, .refl _, rfl, rfl⟩
theorem RowO.rest {H H2 : AHeap} {E sz : Nat} {x y : AVal} {rows : List (List AVal)} (h : RowO H E sz y rows) (hr : Rest H H2 x) (ha : Apart x y) : RowO H2 E sz y rows := by
  cases h with
  | nil => exact .nil
  | @bs g n _ h hn => exact .bs (hr g _ h fun e => ha g e rfl) hn
theorem RowO.fresh {H : AHeap} {E sz b : Nat} {y : AVal} {rows : List (List AVal)} (h : RowO H E sz y rows) (hb : H b = none) : blkOf y ≠ some b := fun e => by
  have := h.blk e
  rw [hb] at this; cases this
theorem PolH.put {H : AHeap} {g b : Nat} {p : Pol} {x1 x2 x3 x4 x5 : AVal} {o : AObj} (h : PolH H g p x1 x2 x3 x4 x5) (hb : H b = none) : PolH (H.put b o) g p x1 x2 x3 x4 x5 :=
  ⟨(hp_ne _ _ (fun e => by have := h.here; rw [e, hb] at this; cases this)).trans h.here, h.r1.put (h.r1.fresh hb), h.r2.put (h.r2.fresh hb), h.r3.put (h.r3.fresh hb), h.r4.put (h.r4.fresh hb), h.r5.put (h.r5.fresh hb), h.a12, h.a13, h.a14, h.a15, h.a23, h.a24, h.a25, h.a34, h.a35, h.a45⟩
/-- Its numbers are set. -/
theorem PolH.nums {H : AHeap} {g : Nat} {p : Pol} {x1 x2 x3 x4 x5 : AVal} (h : PolH H g p x1 x2 x3 x4 x5) (e d n b : Int) : PolH (H.put g (.cells 25 [.v (.int .i64 e), x1, x2, x3, x4, x5, .v (.int .i64 d), .v (.int .i64 n), .v (.int .i64 b)])) g { p with epoch := e, depth := d, nodes := n, bytes := b } x1 x2 x3 x4 x5 :=
  ⟨hp_self _ _ _, h.r1.put (h.r1.notC h.here), h.r2.put (h.r2.notC h.here), h.r3.put (h.r3.notC h.here), h.r4.put (h.r4.notC h.here), h.r5.put (h.r5.notC h.here), h.a12, h.a13, h.a14, h.a15, h.a23, h.a24, h.a25, h.a34, h.a35, h.a45⟩
theorem PolH.app1 {H H2 : AHeap} {g : Nat} {p : Pol} {x1 x2 x3 x4 x5 y : AVal} {w : Str} (h : PolH H g p x1 x2 x3 x4 x5) (hy : RowO H2 9 1 y (strRows p.elems ++ [[.v (.string w)]])) (hr : Rest H H2 x1) (hf : ∀ c o, H c = some o → blkOf x1 ≠ some c → blkOf y ≠ some c) :
    PolH (H2.put g (.cells 25 [.v (.int .i64 p.epoch), y, x2, x3, x4, x5, .v (.int .i64 p.depth), .v (.int .i64 p.nodes), .v (.int .i64 p.bytes)])) g { p with elems := p.elems ++ [w] } y x2 x3 x4 x5 := by
  have hg : H2 g = _ := hr g _ h.here (h.r1.notC h.here)
  have hA : ∀ {z : AVal} {rows : List (List AVal)}, RowO H 9 1 z rows → Apart x1 z → Apart y z := fun {z rows} hz ha c hc hzc => hf c _ (hz.blk hzc) (fun e => ha c e hzc) hc
  have hy2 : RowO H2 9 1 y (strRows (p.elems ++ [w])) := by rw [← strRows_append]; exact hy
  have q2 := h.r2.rest hr (h.a12)
  have q3 := h.r3.rest hr (h.a13)
  have q4 := h.r4.rest hr (h.a14)
  have q5 := h.r5.rest hr (h.a15)
  exact ⟨hp_self _ _ _, hy2.put (hy2.notC hg), q2.put (q2.notC hg), q3.put (q3.notC hg), q4.put (q4.notC hg), q5.put (q5.notC hg), hA h.r2 (h.a12), hA h.r3 (h.a13), hA h.r4 (h.a14), hA h.r5 (h.a15), h.a23, h.a24, h.a25, h.a34, h.a35, h.a45⟩
theorem PolH.app2 {H H2 : AHeap} {g : Nat} {p : Pol} {x1 x2 x3 x4 x5 y : AVal} {w : Str} (h : PolH H g p x1 x2 x3 x4 x5) (hy : RowO H2 9 1 y (strRows p.attrs ++ [[.v (.string w)]])) (hr : Rest H H2 x2) (hf : ∀ c o, H c = some o → blkOf x2 ≠ some c → blkOf y ≠ some c) :
    PolH (H2.put g (.cells 25 [.v (.int .i64 p.epoch), x1, y, x3, x4, x5, .v (.int .i64 p.depth), .v (.int .i64 p.nodes), .v (.int .i64 p.bytes)])) g { p with attrs := p.attrs ++ [w] } x1 y x3 x4 x5 := by
  have hg : H2 g = _ := hr g _ h.here (h.r2.notC h.here)
  have hA : ∀ {z : AVal} {rows : List (List AVal)}, RowO H 9 1 z rows → Apart x2 z → Apart y z := fun {z rows} hz ha c hc hzc => hf c _ (hz.blk hzc) (fun e => ha c e hzc) hc
  have hy2 : RowO H2 9 1 y (strRows (p.attrs ++ [w])) := by rw [← strRows_append]; exact hy
  have q1 := h.r1.rest hr (h.a12.symm)
  have q3 := h.r3.rest hr (h.a23)
  have q4 := h.r4.rest hr (h.a24)
  have q5 := h.r5.rest hr (h.a25)
  exact ⟨hp_self _ _ _, q1.put (q1.notC hg), hy2.put (hy2.notC hg), q3.put (q3.notC hg), q4.put (q4.notC hg), q5.put (q5.notC hg), (hA h.r1 (h.a12.symm)).symm, h.a13, h.a14, h.a15, hA h.r3 (h.a23), hA h.r4 (h.a24), hA h.r5 (h.a25), h.a34, h.a35, h.a45⟩
theorem PolH.app3 {H H2 : AHeap} {g : Nat} {p : Pol} {x1 x2 x3 x4 x5 y : AVal} {w : Str} (h : PolH H g p x1 x2 x3 x4 x5) (hy : RowO H2 9 1 y (strRows p.schemes ++ [[.v (.string w)]])) (hr : Rest H H2 x3) (hf : ∀ c o, H c = some o → blkOf x3 ≠ some c → blkOf y ≠ some c) :
    PolH (H2.put g (.cells 25 [.v (.int .i64 p.epoch), x1, x2, y, x4, x5, .v (.int .i64 p.depth), .v (.int .i64 p.nodes), .v (.int .i64 p.bytes)])) g { p with schemes := p.schemes ++ [w] } x1 x2 y x4 x5 := by
  have hg : H2 g = _ := hr g _ h.here (h.r3.notC h.here)
  have hA : ∀ {z : AVal} {rows : List (List AVal)}, RowO H 9 1 z rows → Apart x3 z → Apart y z := fun {z rows} hz ha c hc hzc => hf c _ (hz.blk hzc) (fun e => ha c e hzc) hc
  have hy2 : RowO H2 9 1 y (strRows (p.schemes ++ [w])) := by rw [← strRows_append]; exact hy
  have q1 := h.r1.rest hr (h.a13.symm)
  have q2 := h.r2.rest hr (h.a23.symm)
  have q4 := h.r4.rest hr (h.a34)
  have q5 := h.r5.rest hr (h.a35)
  exact ⟨hp_self _ _ _, q1.put (q1.notC hg), q2.put (q2.notC hg), hy2.put (hy2.notC hg), q4.put (q4.notC hg), q5.put (q5.notC hg), h.a12, (hA h.r1 (h.a13.symm)).symm, h.a14, h.a15, (hA h.r2 (h.a23.symm)).symm, h.a24, h.a25, hA h.r4 (h.a34), hA h.r5 (h.a35), h.a45⟩
theorem PolH.app4 {H H2 : AHeap} {g : Nat} {p : Pol} {x1 x2 x3 x4 x5 y : AVal} {w : Str} (h : PolH H g p x1 x2 x3 x4 x5) (hy : RowO H2 9 1 y (strRows p.classes ++ [[.v (.string w)]])) (hr : Rest H H2 x4) (hf : ∀ c o, H c = some o → blkOf x4 ≠ some c → blkOf y ≠ some c) :
    PolH (H2.put g (.cells 25 [.v (.int .i64 p.epoch), x1, x2, x3, y, x5, .v (.int .i64 p.depth), .v (.int .i64 p.nodes), .v (.int .i64 p.bytes)])) g { p with classes := p.classes ++ [w] } x1 x2 x3 y x5 := by
  have hg : H2 g = _ := hr g _ h.here (h.r4.notC h.here)
  have hA : ∀ {z : AVal} {rows : List (List AVal)}, RowO H 9 1 z rows → Apart x4 z → Apart y z := fun {z rows} hz ha c hc hzc => hf c _ (hz.blk hzc) (fun e => ha c e hzc) hc
  have hy2 : RowO H2 9 1 y (strRows (p.classes ++ [w])) := by rw [← strRows_append]; exact hy
  have q1 := h.r1.rest hr (h.a14.symm)
  have q2 := h.r2.rest hr (h.a24.symm)
  have q3 := h.r3.rest hr (h.a34.symm)
  have q5 := h.r5.rest hr (h.a45)
  exact ⟨hp_self _ _ _, q1.put (q1.notC hg), q2.put (q2.notC hg), q3.put (q3.notC hg), hy2.put (hy2.notC hg), q5.put (q5.notC hg), h.a12, h.a13, (hA h.r1 (h.a14.symm)).symm, h.a15, h.a23, (hA h.r2 (h.a24.symm)).symm, h.a25, (hA h.r3 (h.a34.symm)).symm, h.a35, hA h.r5 (h.a45)⟩
theorem PolH.app5 {H H2 : AHeap} {g : Nat} {p : Pol} {x1 x2 x3 x4 x5 y : AVal} {w : Str} (h : PolH H g p x1 x2 x3 x4 x5) (hy : RowO H2 9 1 y (strRows p.props ++ [[.v (.string w)]])) (hr : Rest H H2 x5) (hf : ∀ c o, H c = some o → blkOf x5 ≠ some c → blkOf y ≠ some c) :
    PolH (H2.put g (.cells 25 [.v (.int .i64 p.epoch), x1, x2, x3, x4, y, .v (.int .i64 p.depth), .v (.int .i64 p.nodes), .v (.int .i64 p.bytes)])) g { p with props := p.props ++ [w] } x1 x2 x3 x4 y := by
  have hg : H2 g = _ := hr g _ h.here (h.r5.notC h.here)
  have hA : ∀ {z : AVal} {rows : List (List AVal)}, RowO H 9 1 z rows → Apart x5 z → Apart y z := fun {z rows} hz ha c hc hzc => hf c _ (hz.blk hzc) (fun e => ha c e hzc) hc
  have hy2 : RowO H2 9 1 y (strRows (p.props ++ [w])) := by rw [← strRows_append]; exact hy
  have q1 := h.r1.rest hr (h.a15.symm)
  have q2 := h.r2.rest hr (h.a25.symm)
  have q3 := h.r3.rest hr (h.a35.symm)
  have q4 := h.r4.rest hr (h.a45.symm)
  exact ⟨hp_self _ _ _, q1.put (q1.notC hg), q2.put (q2.notC hg), q3.put (q3.notC hg), q4.put (q4.notC hg), hy2.put (hy2.notC hg), h.a12, h.a13, h.a14, (hA h.r1 (h.a15.symm)).symm, h.a23, h.a24, (hA h.r2 (h.a25.symm)).symm, h.a34, (hA h.r3 (h.a35.symm)).symm, (hA h.r4 (h.a45.symm)).symm⟩
/-- All other structs that are owned stay. -/
def Keeps (H H' : AHeap) (g : Nat) : Prop := ∀ c T cs, H c = some (.cells T cs) → c ≠ g → H' c = some (.cells T cs)
theorem Keeps.put {H H' : AHeap} {g : Nat} {o : AObj} (h : Keeps H H' g) : Keeps H (H'.put g o) g := fun c T cs h1 h2 => (hp_ne _ _ h2).trans (h c T cs h1 h2)
theorem Keeps.rest {H H' H2 : AHeap} {g E sz : Nat} {x : AVal} {rows : List (List AVal)} (h : Keeps H H' g) (hx : RowO H' E sz x rows) (hr : Rest H' H2 x) : Keeps H H2 g := fun c T cs h1 h2 => hr c _ (h c T cs h1 h2) (hx.notC (h c T cs h1 h2))
def c_taken : AFn := ⟨2, 130, [],
  .seq (.ops [⟨(some 3), none, .e (.box 22 (.tmp 1))⟩])
  (.seq (.ops [⟨(some 5), none, .q (.mkf 73 [(.tmp 3)])⟩,
      ⟨(some 4), none, .q (.mv (.tmp 5))⟩])
  (.block 0 (.seq (.ops [⟨(some 7), none, .q (.ld false 1 (.tmp 3))⟩,
        ⟨(some 8), none, .q (.len false (.tmp 7))⟩,
        ⟨(some 9), none, .q (.bin .eql .num (.tmp 8) (.const (.int .i64 4)))⟩,
        ⟨(some 10), none, .q (.mv (.tmp 9))⟩,
        ⟨(some 11), (some (10, true)), .q (.ld false 1 (.tmp 3))⟩,
        ⟨(some 12), (some (10, true)), .q (.ixa 1 (.tmp 11) (.const (.int .i64 0)))⟩,
        ⟨(some 13), (some (10, true)), .q (.ld false 1 (.tmp 12))⟩,
        ⟨(some 14), (some (10, true)), .q (.bin .eql .num (.tmp 13) (.const (.string ⟨#[99, 97, 112, 115]⟩)))⟩,
        ⟨(some 15), none, .q (.pick (.tmp 10) (.tmp 14) (.const (.bool false)))⟩,
        ⟨(some 6), none, .q (.mv (.tmp 15))⟩])
    (.cond (.tmp 6)
      (.ops [⟨(some 16), none, .q (.mv (.tmp 0))⟩,
          ⟨(some 17), none, .q (.mv (.tmp 0))⟩,
          ⟨(some 18), none, .q (.mv (.tmp 0))⟩,
          ⟨(some 19), none, .q (.mv (.tmp 4))⟩,
          ⟨(some 20), none, .e (.callv (.tmp 19) [(.const (.int .i64 1))])⟩,
          ⟨(some 21), none, .q (.mv (.tmp 4))⟩,
          ⟨(some 22), none, .e (.callv (.tmp 21) [(.const (.int .i64 2))])⟩,
          ⟨(some 23), none, .q (.mv (.tmp 4))⟩,
          ⟨(some 24), none, .e (.callv (.tmp 23) [(.const (.int .i64 3))])⟩,
          ⟨(some 25), none, .q (.nck (.tmp 16))⟩,
          ⟨(some 26), none, .q (.fad 6 1 (.tmp 25))⟩,
          ⟨none, none, .e (.st 1 (.tmp 26) (.tmp 20))⟩,
          ⟨(some 27), none, .q (.nck (.tmp 17))⟩,
          ⟨(some 28), none, .q (.fad 7 1 (.tmp 27))⟩,
          ⟨none, none, .e (.st 1 (.tmp 28) (.tmp 22))⟩,
          ⟨(some 29), none, .q (.nck (.tmp 18))⟩,
          ⟨(some 30), none, .q (.fad 8 1 (.tmp 29))⟩,
          ⟨none, none, .e (.st 1 (.tmp 30) (.tmp 24))⟩])
      (.seq (.ops [⟨(some 32), none, .q (.ld false 1 (.tmp 3))⟩,
          ⟨(some 33), none, .q (.len false (.tmp 32))⟩,
          ⟨(some 34), none, .q (.bin .neq .num (.tmp 33) (.const (.int .i64 2)))⟩,
          ⟨(some 31), none, .q (.mv (.tmp 34))⟩])
      (.cond (.tmp 31)
        (.skip)
        (.seq (.ops [⟨(some 36), none, .q (.ld false 1 (.tmp 3))⟩,
            ⟨(some 37), none, .q (.ixa 1 (.tmp 36) (.const (.int .i64 0)))⟩,
            ⟨(some 38), none, .q (.ld false 1 (.tmp 37))⟩,
            ⟨(some 39), none, .q (.bin .eql .num (.tmp 38) (.const (.string ⟨#[101, 112, 111, 99, 104]⟩)))⟩,
            ⟨(some 35), none, .q (.mv (.tmp 39))⟩])
        (.cond (.tmp 35)
          (.ops [⟨(some 40), none, .q (.mv (.tmp 0))⟩,
              ⟨(some 41), none, .q (.mv (.tmp 4))⟩,
              ⟨(some 42), none, .e (.callv (.tmp 41) [(.const (.int .i64 1))])⟩,
              ⟨(some 43), none, .q (.nck (.tmp 40))⟩,
              ⟨(some 44), none, .q (.fad 0 1 (.tmp 43))⟩,
              ⟨none, none, .e (.st 1 (.tmp 44) (.tmp 42))⟩])
          (.seq (.ops [⟨(some 46), none, .q (.ld false 1 (.tmp 3))⟩,
              ⟨(some 47), none, .q (.ixa 1 (.tmp 46) (.const (.int .i64 0)))⟩,
              ⟨(some 48), none, .q (.ld false 1 (.tmp 47))⟩,
              ⟨(some 49), none, .q (.bin .eql .num (.tmp 48) (.const (.string ⟨#[101, 108, 101, 109]⟩)))⟩,
              ⟨(some 45), none, .q (.mv (.tmp 49))⟩])
          (.cond (.tmp 45)
            (.ops [⟨(some 50), none, .q (.mv (.tmp 0))⟩,
                ⟨(some 51), none, .q (.mv (.tmp 0))⟩,
                ⟨(some 52), none, .q (.nck (.tmp 51))⟩,
                ⟨(some 53), none, .q (.fad 1 1 (.tmp 52))⟩,
                ⟨(some 54), none, .q (.ld false 1 (.tmp 53))⟩,
                ⟨(some 55), none, .q (.ld false 1 (.tmp 3))⟩,
                ⟨(some 56), none, .q (.ixa 1 (.tmp 55) (.const (.int .i64 1)))⟩,
                ⟨(some 57), none, .q (.ld false 1 (.tmp 56))⟩,
                ⟨(some 58), none, .e (.bsl 9 1 [(.tmp 57)])⟩,
                ⟨(some 59), none, .e (.app 9 1 16 false (.tmp 54) (.tmp 58))⟩,
                ⟨(some 60), none, .q (.nck (.tmp 50))⟩,
                ⟨(some 61), none, .q (.fad 1 1 (.tmp 60))⟩,
                ⟨none, none, .e (.st 1 (.tmp 61) (.tmp 59))⟩])
            (.seq (.ops [⟨(some 63), none, .q (.ld false 1 (.tmp 3))⟩,
                ⟨(some 64), none, .q (.ixa 1 (.tmp 63) (.const (.int .i64 0)))⟩,
                ⟨(some 65), none, .q (.ld false 1 (.tmp 64))⟩,
                ⟨(some 66), none, .q (.bin .eql .num (.tmp 65) (.const (.string ⟨#[97, 116, 116, 114]⟩)))⟩,
                ⟨(some 62), none, .q (.mv (.tmp 66))⟩])
            (.cond (.tmp 62)
              (.ops [⟨(some 67), none, .q (.mv (.tmp 0))⟩,
                  ⟨(some 68), none, .q (.mv (.tmp 0))⟩,
                  ⟨(some 69), none, .q (.nck (.tmp 68))⟩,
                  ⟨(some 70), none, .q (.fad 2 1 (.tmp 69))⟩,
                  ⟨(some 71), none, .q (.ld false 1 (.tmp 70))⟩,
                  ⟨(some 72), none, .q (.ld false 1 (.tmp 3))⟩,
                  ⟨(some 73), none, .q (.ixa 1 (.tmp 72) (.const (.int .i64 1)))⟩,
                  ⟨(some 74), none, .q (.ld false 1 (.tmp 73))⟩,
                  ⟨(some 75), none, .e (.bsl 9 1 [(.tmp 74)])⟩,
                  ⟨(some 76), none, .e (.app 9 1 16 false (.tmp 71) (.tmp 75))⟩,
                  ⟨(some 77), none, .q (.nck (.tmp 67))⟩,
                  ⟨(some 78), none, .q (.fad 2 1 (.tmp 77))⟩,
                  ⟨none, none, .e (.st 1 (.tmp 78) (.tmp 76))⟩])
              (.seq (.ops [⟨(some 80), none, .q (.ld false 1 (.tmp 3))⟩,
                  ⟨(some 81), none, .q (.ixa 1 (.tmp 80) (.const (.int .i64 0)))⟩,
                  ⟨(some 82), none, .q (.ld false 1 (.tmp 81))⟩,
                  ⟨(some 83), none, .q (.bin .eql .num (.tmp 82) (.const (.string ⟨#[115, 99, 104, 101, 109, 101]⟩)))⟩,
                  ⟨(some 79), none, .q (.mv (.tmp 83))⟩])
              (.cond (.tmp 79)
                (.ops [⟨(some 84), none, .q (.mv (.tmp 0))⟩,
                    ⟨(some 85), none, .q (.mv (.tmp 0))⟩,
                    ⟨(some 86), none, .q (.nck (.tmp 85))⟩,
                    ⟨(some 87), none, .q (.fad 3 1 (.tmp 86))⟩,
                    ⟨(some 88), none, .q (.ld false 1 (.tmp 87))⟩,
                    ⟨(some 89), none, .q (.ld false 1 (.tmp 3))⟩,
                    ⟨(some 90), none, .q (.ixa 1 (.tmp 89) (.const (.int .i64 1)))⟩,
                    ⟨(some 91), none, .q (.ld false 1 (.tmp 90))⟩,
                    ⟨(some 92), none, .e (.bsl 9 1 [(.tmp 91)])⟩,
                    ⟨(some 93), none, .e (.app 9 1 16 false (.tmp 88) (.tmp 92))⟩,
                    ⟨(some 94), none, .q (.nck (.tmp 84))⟩,
                    ⟨(some 95), none, .q (.fad 3 1 (.tmp 94))⟩,
                    ⟨none, none, .e (.st 1 (.tmp 95) (.tmp 93))⟩])
                (.seq (.ops [⟨(some 97), none, .q (.ld false 1 (.tmp 3))⟩,
                    ⟨(some 98), none, .q (.ixa 1 (.tmp 97) (.const (.int .i64 0)))⟩,
                    ⟨(some 99), none, .q (.ld false 1 (.tmp 98))⟩,
                    ⟨(some 100), none, .q (.bin .eql .num (.tmp 99) (.const (.string ⟨#[99, 108, 97, 115, 115]⟩)))⟩,
                    ⟨(some 96), none, .q (.mv (.tmp 100))⟩])
                (.cond (.tmp 96)
                  (.ops [⟨(some 101), none, .q (.mv (.tmp 0))⟩,
                      ⟨(some 102), none, .q (.mv (.tmp 0))⟩,
                      ⟨(some 103), none, .q (.nck (.tmp 102))⟩,
                      ⟨(some 104), none, .q (.fad 4 1 (.tmp 103))⟩,
                      ⟨(some 105), none, .q (.ld false 1 (.tmp 104))⟩,
                      ⟨(some 106), none, .q (.ld false 1 (.tmp 3))⟩,
                      ⟨(some 107), none, .q (.ixa 1 (.tmp 106) (.const (.int .i64 1)))⟩,
                      ⟨(some 108), none, .q (.ld false 1 (.tmp 107))⟩,
                      ⟨(some 109), none, .e (.bsl 9 1 [(.tmp 108)])⟩,
                      ⟨(some 110), none, .e (.app 9 1 16 false (.tmp 105) (.tmp 109))⟩,
                      ⟨(some 111), none, .q (.nck (.tmp 101))⟩,
                      ⟨(some 112), none, .q (.fad 4 1 (.tmp 111))⟩,
                      ⟨none, none, .e (.st 1 (.tmp 112) (.tmp 110))⟩])
                  (.seq (.ops [⟨(some 114), none, .q (.ld false 1 (.tmp 3))⟩,
                      ⟨(some 115), none, .q (.ixa 1 (.tmp 114) (.const (.int .i64 0)))⟩,
                      ⟨(some 116), none, .q (.ld false 1 (.tmp 115))⟩,
                      ⟨(some 117), none, .q (.bin .eql .num (.tmp 116) (.const (.string ⟨#[112, 114, 111, 112]⟩)))⟩,
                      ⟨(some 113), none, .q (.mv (.tmp 117))⟩])
                  (.cond (.tmp 113)
                    (.ops [⟨(some 118), none, .q (.mv (.tmp 0))⟩,
                        ⟨(some 119), none, .q (.mv (.tmp 0))⟩,
                        ⟨(some 120), none, .q (.nck (.tmp 119))⟩,
                        ⟨(some 121), none, .q (.fad 5 1 (.tmp 120))⟩,
                        ⟨(some 122), none, .q (.ld false 1 (.tmp 121))⟩,
                        ⟨(some 123), none, .q (.ld false 1 (.tmp 3))⟩,
                        ⟨(some 124), none, .q (.ixa 1 (.tmp 123) (.const (.int .i64 1)))⟩,
                        ⟨(some 125), none, .q (.ld false 1 (.tmp 124))⟩,
                        ⟨(some 126), none, .e (.bsl 9 1 [(.tmp 125)])⟩,
                        ⟨(some 127), none, .e (.app 9 1 16 false (.tmp 122) (.tmp 126))⟩,
                        ⟨(some 128), none, .q (.nck (.tmp 118))⟩,
                        ⟨(some 129), none, .q (.fad 5 1 (.tmp 128))⟩,
                        ⟨none, none, .e (.st 1 (.tmp 129) (.tmp 127))⟩])
                    (.skip))))))))))))))))))), []⟩
theorem k_taken : compF Tryz.prog 57 = some c_taken := by kernel_rfl
set_option maxHeartbeats 16000000 in
theorem taken_ok {W : World} (E : Errs W) {H : AHeap} {g : Nat} {f : Bool} {p : Pol} {x1 x2 x3 x4 x5 : AVal} (ws : List Str) (hP : PolH H g p x1 x2 x3 x4 x5) (hl : ws.length ≤ 1000000) (hz : ∀ s ∈ ws, s.size ≤ 1000000000) (hb1 : p.elems.length ≤ 1000000 ∧ p.attrs.length ≤ 1000000 ∧ p.schemes.length ≤ 1000000 ∧ p.classes.length ≤ 1000000 ∧ p.props.length ≤ 1000000) :
    ACalls Tryz.prog W 57 [.v (.pointer (some ⟨g, 0, none⟩)), .sl f 1 (strRows ws)] H fun _ H' => (∃ y1 y2 y3 y4 y5, PolH H' g (takenP p ws) y1 y2 y3 y4 y5) ∧ Keeps H H' g := by
  refine fn_run follows k_taken rfl ?_
  simp only [c_taken, aretC_nil, List.zipIdx_cons, List.zipIdx_nil, List.map_cons, List.map_nil, Nat.zero_add]
  (try simp +decide (implicitDefEqProofs := false) only [go_sem, ↓stk_g, ↓stk_c, ↓reduceIte])
  rw [stk_box]
  refine ⟨by rfl, fun b hb => ?_⟩
  have hP1 := hP.put (o := .cells 22 [.sl f 1 (strRows ws)]) hb
  have k1 : (H.put b (.cells 22 [.sl f 1 (strRows ws)])) b = some (.cells 22 [.sl f 1 (strRows ws)]) := hp_self _ _ _
  have hT : ∀ q : Pol, takenP p ws = q → q = takenP p ws := fun q h => h.symm
  show stk Tryz.prog W _ _ _ (AState.mk _ (H.put b (.cells 22 [.sl f 1 (strRows ws)])))
  have hb0 : H b = none := hb
  have hK : Keeps H (H.put b (.cells 22 [.sl f 1 (strRows ws)])) g := fun c T cs h1 h2 => (hp_ne _ _ (fun e => by rw [e, hb0] at h1; cases h1)).trans h1
  generalize H.put b (.cells 22 [.sl f 1 (strRows ws)]) = H1 at hP1 k1 hK ⊢
  clear hP hb hb0
  have hhere := hP1.here
  have t1 : (1 : Int).toNat = 1 := rfl
  by_cases l4 : ws.length = 4
  · have d4 : decide ((ws.length : Int) = 4) = true := decide_eq_true (by omega)
    have i0 : (0 : Int) < (ws.length : Int) := by omega
    have g0 := strRows_get (l := ws) (i := 0) (by omega)
    by_cases w0 : ws.getD 0 ByteArray.empty = (⟨#[99, 97, 112, 115]⟩ : Str)
    · have e0 : decide (ws.getD 0 ByteArray.empty = ((⟨#[99, 97, 112, 115]⟩ : ByteArray))) = true := decide_eq_true w0
      have ht : takenP p ws = { p with depth := numP (ws.getD 1 ByteArray.empty), nodes := numP (ws.getD 2 ByteArray.empty), bytes := numP (ws.getD 3 ByteArray.empty) } := by
        unfold takenP; rw [if_pos ⟨l4, w0⟩]
      rw [ht]
      (try simp +decide (implicitDefEqProofs := false) only [go_sem, ↓stk_g, ↓stk_c, ↓reduceIte, d4, k1, i0, g0, e0])
      refine stk_callvH (f := 73) (caps := [.v (.pointer (some ⟨b, 0, none⟩))]) (by rfl) (by kernel_rfl) (taken1_ok E ws 1 k1 (by omega) hz) fun v H' hv => ?_
      obtain ⟨rfl, rfl⟩ := hv
      (try simp +decide (implicitDefEqProofs := false) only [go_sem, ↓stk_g, ↓stk_c, ↓reduceIte])
      refine stk_callvH (f := 73) (caps := [.v (.pointer (some ⟨b, 0, none⟩))]) (by rfl) (by kernel_rfl) (taken1_ok E ws 2 k1 (by omega) hz) fun v H' hv => ?_
      obtain ⟨rfl, rfl⟩ := hv
      (try simp +decide (implicitDefEqProofs := false) only [go_sem, ↓stk_g, ↓stk_c, ↓reduceIte])
      refine stk_callvH (f := 73) (caps := [.v (.pointer (some ⟨b, 0, none⟩))]) (by rfl) (by kernel_rfl) (taken1_ok E ws 3 k1 (by omega) hz) fun v H' hv => ?_
      obtain ⟨rfl, rfl⟩ := hv
      (try simp +decide (implicitDefEqProofs := false) only [go_sem, ↓stk_g, ↓stk_c, ↓reduceIte, hhere, hp_self])
      exact ⟨.inl rfl, _, .any, Sub.refl _, .any _, ⟨x1, x2, x3, x4, x5, hP1.nums _ _ _ _⟩, hK.put⟩
    · have e0 : decide (ws.getD 0 ByteArray.empty = ((⟨#[99, 97, 112, 115]⟩ : ByteArray))) = false := decide_eq_false w0
      have d2 : decide ((ws.length : Int) ≠ 2) = true := decide_eq_true (by omega)
      have ht : takenP p ws = p := by
        unfold takenP; rw [if_neg (fun h => w0 h.2), if_pos (by omega)]
      rw [ht]
      (try simp +decide (implicitDefEqProofs := false) only [go_sem, ↓stk_g, ↓stk_c, ↓reduceIte, d4, d2, k1, i0, g0, e0])
      exact ⟨.inl rfl, _, .any, Sub.refl _, .any _, ⟨x1, x2, x3, x4, x5, hP1⟩, hK⟩
  have d4 : decide ((ws.length : Int) = 4) = false := decide_eq_false (by omega)
  by_cases l2 : ws.length = 2
  rotate_left
  · have d2 : decide ((ws.length : Int) ≠ 2) = true := decide_eq_true (by omega)
    have ht : takenP p ws = p := by
      unfold takenP; rw [if_neg (fun h => l4 h.1), if_pos l2]
    rw [ht]
    (try simp +decide (implicitDefEqProofs := false) only [go_sem, ↓stk_g, ↓stk_c, ↓reduceIte, d4, d2, k1])
    exact ⟨.inl rfl, _, .any, Sub.refl _, .any _, ⟨x1, x2, x3, x4, x5, hP1⟩, hK⟩
  have d2 : decide ((ws.length : Int) ≠ 2) = false := by simp; omega
  have i0 : (0 : Int) < (ws.length : Int) := by omega
  have i1 : (1 : Int) < (ws.length : Int) := by omega
  have g0 := strRows_get (l := ws) (i := 0) (by omega)
  have g1 := strRows_get (l := ws) (i := 1) (by omega)
  by_cases w0 : ws.getD 0 ByteArray.empty = (⟨#[101, 112, 111, 99, 104]⟩ : Str)
  · have e0 : decide (ws.getD 0 ByteArray.empty = ((⟨#[101, 112, 111, 99, 104]⟩ : ByteArray))) = true := decide_eq_true w0
    have ht : takenP p ws = { p with epoch := numP (ws.getD 1 ByteArray.empty) } := by
      unfold takenP; rw [if_neg (fun h => l4 h.1), if_neg (by omega), if_pos w0]
    rw [ht]
    (try simp +decide (implicitDefEqProofs := false) only [go_sem, ↓stk_g, ↓stk_c, ↓reduceIte, d4, d2, k1, i0, g0, e0])
    refine stk_callvH (f := 73) (caps := [.v (.pointer (some ⟨b, 0, none⟩))]) (by rfl) (by kernel_rfl) (taken1_ok E ws 1 k1 (by omega) hz) fun v H' hv => ?_
    obtain ⟨rfl, rfl⟩ := hv
    (try simp +decide (implicitDefEqProofs := false) only [go_sem, ↓stk_g, ↓stk_c, ↓reduceIte, hhere, hp_self])
    exact ⟨.inl rfl, _, .any, Sub.refl _, .any _, ⟨x1, x2, x3, x4, x5, hP1.nums _ _ _ _⟩, hK.put⟩
  have e0 : decide (ws.getD 0 ByteArray.empty = ((⟨#[101, 112, 111, 99, 104]⟩ : ByteArray))) = false := decide_eq_false w0
  by_cases w1 : ws.getD 0 ByteArray.empty = (⟨#[101, 108, 101, 109]⟩ : Str)
  · have e1 : decide (ws.getD 0 ByteArray.empty = ((⟨#[101, 108, 101, 109]⟩ : ByteArray))) = true := decide_eq_true w1
    have ht : takenP p ws = { p with elems := p.elems ++ [ws.getD 1 ByteArray.empty] } := by
      unfold takenP; rw [if_neg (fun h => l4 h.1), if_neg (by omega), if_neg w0, if_pos w1]
    rw [ht]
    have hxb := hP1.r1.notC hhere
    obtain rfl | ⟨c, m, rfl⟩ := hP1.r1.shape
    all_goals (
      (try simp +decide (implicitDefEqProofs := false) only [go_sem, ↓stk_g, ↓stk_c, ↓reduceIte, d4, d2, k1, i0, i1, t1, g0, g1, e0, e1, hhere])
      refine stk_appX (rows := strRows p.elems) (new := [[.v (.string (ws.getD 1 ByteArray.empty))]]) hP1.r1 (by rfl) (by simp only [strRows_len, List.length_cons, List.length_nil]; omega) fun y H2 hy hr hf => ?_
      have hg2 := hr g _ hhere hxb
      have hfin := hP1.app1 hy hr hf
      have hK2 := hK.rest hP1.r1 hr
      obtain rfl | ⟨c2, m2, rfl⟩ := hy.shape
      all_goals (
        (try simp +decide (implicitDefEqProofs := false) only [go_sem, ↓stk_g, ↓stk_c, ↓reduceIte, hg2, hp_self])
        exact ⟨.inl rfl, _, .any, Sub.refl _, .any _, ⟨_, _, _, _, _, hfin⟩, hK2.put⟩))
  have e1 : decide (ws.getD 0 ByteArray.empty = ((⟨#[101, 108, 101, 109]⟩ : ByteArray))) = false := decide_eq_false w1
  by_cases w2 : ws.getD 0 ByteArray.empty = (⟨#[97, 116, 116, 114]⟩ : Str)
  · have e2 : decide (ws.getD 0 ByteArray.empty = ((⟨#[97, 116, 116, 114]⟩ : ByteArray))) = true := decide_eq_true w2
    have ht : takenP p ws = { p with attrs := p.attrs ++ [ws.getD 1 ByteArray.empty] } := by
      unfold takenP; rw [if_neg (fun h => l4 h.1), if_neg (by omega), if_neg w0, if_neg w1, if_pos w2]
    rw [ht]
    have hxb := hP1.r2.notC hhere
    obtain rfl | ⟨c, m, rfl⟩ := hP1.r2.shape
    all_goals (
      (try simp +decide (implicitDefEqProofs := false) only [go_sem, ↓stk_g, ↓stk_c, ↓reduceIte, d4, d2, k1, i0, i1, t1, g0, g1, e0, e1, e2, hhere])
      refine stk_appX (rows := strRows p.attrs) (new := [[.v (.string (ws.getD 1 ByteArray.empty))]]) hP1.r2 (by rfl) (by simp only [strRows_len, List.length_cons, List.length_nil]; omega) fun y H2 hy hr hf => ?_
      have hg2 := hr g _ hhere hxb
      have hfin := hP1.app2 hy hr hf
      have hK2 := hK.rest hP1.r2 hr
      obtain rfl | ⟨c2, m2, rfl⟩ := hy.shape
      all_goals (
        (try simp +decide (implicitDefEqProofs := false) only [go_sem, ↓stk_g, ↓stk_c, ↓reduceIte, hg2, hp_self])
        exact ⟨.inl rfl, _, .any, Sub.refl _, .any _, ⟨_, _, _, _, _, hfin⟩, hK2.put⟩))
  have e2 : decide (ws.getD 0 ByteArray.empty = ((⟨#[97, 116, 116, 114]⟩ : ByteArray))) = false := decide_eq_false w2
  by_cases w3 : ws.getD 0 ByteArray.empty = (⟨#[115, 99, 104, 101, 109, 101]⟩ : Str)
  · have e3 : decide (ws.getD 0 ByteArray.empty = ((⟨#[115, 99, 104, 101, 109, 101]⟩ : ByteArray))) = true := decide_eq_true w3
    have ht : takenP p ws = { p with schemes := p.schemes ++ [ws.getD 1 ByteArray.empty] } := by
      unfold takenP; rw [if_neg (fun h => l4 h.1), if_neg (by omega), if_neg w0, if_neg w1, if_neg w2, if_pos w3]
    rw [ht]
    have hxb := hP1.r3.notC hhere
    obtain rfl | ⟨c, m, rfl⟩ := hP1.r3.shape
    all_goals (
      (try simp +decide (implicitDefEqProofs := false) only [go_sem, ↓stk_g, ↓stk_c, ↓reduceIte, d4, d2, k1, i0, i1, t1, g0, g1, e0, e1, e2, e3, hhere])
      refine stk_appX (rows := strRows p.schemes) (new := [[.v (.string (ws.getD 1 ByteArray.empty))]]) hP1.r3 (by rfl) (by simp only [strRows_len, List.length_cons, List.length_nil]; omega) fun y H2 hy hr hf => ?_
      have hg2 := hr g _ hhere hxb
      have hfin := hP1.app3 hy hr hf
      have hK2 := hK.rest hP1.r3 hr
      obtain rfl | ⟨c2, m2, rfl⟩ := hy.shape
      all_goals (
        (try simp +decide (implicitDefEqProofs := false) only [go_sem, ↓stk_g, ↓stk_c, ↓reduceIte, hg2, hp_self])
        exact ⟨.inl rfl, _, .any, Sub.refl _, .any _, ⟨_, _, _, _, _, hfin⟩, hK2.put⟩))
  have e3 : decide (ws.getD 0 ByteArray.empty = ((⟨#[115, 99, 104, 101, 109, 101]⟩ : ByteArray))) = false := decide_eq_false w3
  by_cases w4 : ws.getD 0 ByteArray.empty = (⟨#[99, 108, 97, 115, 115]⟩ : Str)
  · have e4 : decide (ws.getD 0 ByteArray.empty = ((⟨#[99, 108, 97, 115, 115]⟩ : ByteArray))) = true := decide_eq_true w4
    have ht : takenP p ws = { p with classes := p.classes ++ [ws.getD 1 ByteArray.empty] } := by
      unfold takenP; rw [if_neg (fun h => l4 h.1), if_neg (by omega), if_neg w0, if_neg w1, if_neg w2, if_neg w3, if_pos w4]
    rw [ht]
    have hxb := hP1.r4.notC hhere
    obtain rfl | ⟨c, m, rfl⟩ := hP1.r4.shape
    all_goals (
      (try simp +decide (implicitDefEqProofs := false) only [go_sem, ↓stk_g, ↓stk_c, ↓reduceIte, d4, d2, k1, i0, i1, t1, g0, g1, e0, e1, e2, e3, e4, hhere])
      refine stk_appX (rows := strRows p.classes) (new := [[.v (.string (ws.getD 1 ByteArray.empty))]]) hP1.r4 (by rfl) (by simp only [strRows_len, List.length_cons, List.length_nil]; omega) fun y H2 hy hr hf => ?_
      have hg2 := hr g _ hhere hxb
      have hfin := hP1.app4 hy hr hf
      have hK2 := hK.rest hP1.r4 hr
      obtain rfl | ⟨c2, m2, rfl⟩ := hy.shape
      all_goals (
        (try simp +decide (implicitDefEqProofs := false) only [go_sem, ↓stk_g, ↓stk_c, ↓reduceIte, hg2, hp_self])
        exact ⟨.inl rfl, _, .any, Sub.refl _, .any _, ⟨_, _, _, _, _, hfin⟩, hK2.put⟩))
  have e4 : decide (ws.getD 0 ByteArray.empty = ((⟨#[99, 108, 97, 115, 115]⟩ : ByteArray))) = false := decide_eq_false w4
  by_cases w5 : ws.getD 0 ByteArray.empty = (⟨#[112, 114, 111, 112]⟩ : Str)
  · have e5 : decide (ws.getD 0 ByteArray.empty = ((⟨#[112, 114, 111, 112]⟩ : ByteArray))) = true := decide_eq_true w5
    have ht : takenP p ws = { p with props := p.props ++ [ws.getD 1 ByteArray.empty] } := by
      unfold takenP; rw [if_neg (fun h => l4 h.1), if_neg (by omega), if_neg w0, if_neg w1, if_neg w2, if_neg w3, if_neg w4, if_pos w5]
    rw [ht]
    have hxb := hP1.r5.notC hhere
    obtain rfl | ⟨c, m, rfl⟩ := hP1.r5.shape
    all_goals (
      (try simp +decide (implicitDefEqProofs := false) only [go_sem, ↓stk_g, ↓stk_c, ↓reduceIte, d4, d2, k1, i0, i1, t1, g0, g1, e0, e1, e2, e3, e4, e5, hhere])
      refine stk_appX (rows := strRows p.props) (new := [[.v (.string (ws.getD 1 ByteArray.empty))]]) hP1.r5 (by rfl) (by simp only [strRows_len, List.length_cons, List.length_nil]; omega) fun y H2 hy hr hf => ?_
      have hg2 := hr g _ hhere hxb
      have hfin := hP1.app5 hy hr hf
      have hK2 := hK.rest hP1.r5 hr
      obtain rfl | ⟨c2, m2, rfl⟩ := hy.shape
      all_goals (
        (try simp +decide (implicitDefEqProofs := false) only [go_sem, ↓stk_g, ↓stk_c, ↓reduceIte, hg2, hp_self])
        exact ⟨.inl rfl, _, .any, Sub.refl _, .any _, ⟨_, _, _, _, _, hfin⟩, hK2.put⟩))
  have e5 : decide (ws.getD 0 ByteArray.empty = ((⟨#[112, 114, 111, 112]⟩ : ByteArray))) = false := decide_eq_false w5
  have ht : takenP p ws = p := by
    unfold takenP; rw [if_neg (fun h => l4 h.1), if_neg (by omega), if_neg w0, if_neg w1, if_neg w2, if_neg w3, if_neg w4, if_neg w5]
  rw [ht]
  (try simp +decide (implicitDefEqProofs := false) only [go_sem, ↓stk_g, ↓stk_c, ↓reduceIte, d4, d2, k1, i0, g0, e0, e1, e2, e3, e4, e5])
  exact ⟨.inl rfl, _, .any, Sub.refl _, .any _, ⟨x1, x2, x3, x4, x5, hP1⟩, hK⟩
end Go.Proofs.YtcplmaffccfbdaaGreatDoor.M
