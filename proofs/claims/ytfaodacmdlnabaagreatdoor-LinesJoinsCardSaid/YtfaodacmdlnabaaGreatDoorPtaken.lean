/-
 policy.taken: a line's words laid into a policy that is owned.
-/
import Derived.Test.YtfaodacmdlnabaaGreatDoorPatoi
import Derived.Test.YtfaodacmdlnabaaGreatDoorPc
namespace Go.Proofs.YtfaodacmdlnabaaGreatDoor.M
open Go.RowKit
attribute [local go_sem] lay oneOr List.take_succ_cons List.take_zero List.drop_succ_cons List.drop_zero List.nil_append List.cons_append Option.getD_some List.append_nil and_self List.all_cons List.all_nil
set_option linter.unusedVariables false
set_option linter.unusedSimpArgs false
/-- An append to an owned row; its new place is none of the others'. -/
theorem aapp_rowX {H : AHeap} {E sz b : Nat} {x : AVal} {rows new : List (List AVal)} {K : AVal → AHeap → Prop} (hr : RowO H E sz x rows) (hb : (rows.length + new.length) * b ≤ 140737488355328)
  (hK : ∀ x' H', RowO H' E sz x' (rows ++ new) → Rest H H' x → (∀ c o, H c = some o → blkOf x ≠ some c → blkOf x' ≠ some c) → K x' H') : aapp H E sz b x new K := by
 constructor
 ·rintro rfl
  refine ⟨?_, hK x H (by simpa using hr) (fun b o h _ => h) (fun c o _ h => h)⟩
  cases hr <;> rfl
 ·intro hne
  cases hr with
  | nil =>
   refine ⟨by simpa using hb, fun g hg => hK _ _ (.bs (put_self H g _) (by simp)) (fun b o h _ => ?_) (fun c o h _ e => ?_)⟩
   ·rw [put_ne]; exact h
    intro e; rw [e, hg] at h; cases h
   ·have e2 : g = c := Option.some.inj e
    rw [← e2, hg] at h; cases h
  | @bs g n rows h hn =>
   subst hn
   simp only [h]
   refine ⟨⟨trivial, trivial, trivial, Nat.le_refl _, hb⟩, fun g' hg' => hK _ _ ?_ (fun b o h2 hne => ?_) (fun c o h2 hne e => ?_)⟩
   ·rw [List.take_length]
    exact .bs (put_self (H.del g) g' _) (by simp)
   ·have hbg : b ≠ g := fun e => hne (by rw [e]; rfl)
    have hd : (H.del g) b = H b := by simp [AHeap.del, hbg]
    rw [put_ne, hd]; exact h2
    intro e; rw [e] at hd; rw [hd, ← e, h2] at hg'; cases hg'
   ·have e2 : g' = c := Option.some.inj e
    have hbg : c ≠ g := fun e => hne (by rw [e]; rfl)
    have hd : (H.del g) c = H c := by simp [AHeap.del, hbg]
    rw [e2, hd, h2] at hg'; cases hg'
theorem stk_appX {P : Program} {W : World} {k : List Item} {Q : Exit → AState → Prop} {s : AState} {d : Option Nat} {E sz b : Nat} {st : Bool} {x y : Operand} {r : List AOper} {rows new : List (List AVal)} (hr : RowO s.H E sz (ev s.tm x) rows) (hs : srcOf s.H sz (ev s.tm y) = some new) (hb : (rows.length + new.length) * b ≤ 140737488355328)
  (hK : ∀ x' H', RowO H' E sz x' (rows ++ new) → Rest s.H H' (ev s.tm x) → (∀ c o, s.H c = some o → blkOf (ev s.tm x) ≠ some c → blkOf x' ≠ some c) → stk P W (.ops r :: k) Q .normal ((⟨s.tm, H'⟩ : AState).put d x')) : stk P W (.ops (⟨d, none, .e (.app E sz b st x y)⟩ :: r) :: k) Q .normal s := by
 show rops P W (⟨d, none, .e (.app E sz b st x y)⟩ :: r) s _
 exact ⟨new, hs, aapp_rowX hr hb hK⟩
/-- The blocks of two rows are two. -/
def Apart (x y : AVal) : Prop := ∀ c, blkOf x = some c → blkOf y ≠ some c
theorem Apart.symm {x y : AVal} (h : Apart x y) : Apart y x := fun c h1 h2 => h c h2 h1
/-- A policy that is owned, its lists in rows of their own. -/
structure PolH (H : AHeap) (g : Nat) (p : Pol) (x1 x2 x3 x4 x5 : AVal) : Prop where
 here : H g = some (.cells 36 [.v (.int .i64 p.epoch), x1, x2, x3, x4, x5, .v (.int .i64 p.depth), .v (.int .i64 p.nodes), .v (.int .i64 p.bytes)])
 r1 : RowO H 9 1 x1 (strRows p.elems)
 r2 : RowO H 9 1 x2 (strRows p.attrs)
 r3 : RowO H 9 1 x3 (strRows p.schemes)
 r4 : RowO H 9 1 x4 (strRows p.classes)
 r5 : RowO H 9 1 x5 (strRows p.props)
 a12 : Apart x1 x2
 a13 : Apart x1 x3
 a14 : Apart x1 x4
 a15 : Apart x1 x5
 a23 : Apart x2 x3
 a24 : Apart x2 x4
 a25 : Apart x2 x5
 a34 : Apart x3 x4
 a35 : Apart x3 x5
 a45 : Apart x4 x5
def takenP (p : Pol) (w : List Str) : Pol :=
 let w0 := w.getD 0 ByteArray.empty
 let w1 := w.getD 1 ByteArray.empty
 if w.length = 4 ∧ w0 = (⟨#[99, 97, 112, 115]⟩ : Str) then { p with depth := numP w1, nodes := numP (w.getD 2 ByteArray.empty), bytes := numP (w.getD 3 ByteArray.empty) }
 else if w.length ≠ 2 then p
 else if w0 = (⟨#[101, 112, 111, 99, 104]⟩ : Str) then { p with epoch := numP w1 }
 else if w0 = (⟨#[101, 108, 101, 109]⟩ : Str) then { p with elems := p.elems ++ [w1] }
 else if w0 = (⟨#[97, 116, 116, 114]⟩ : Str) then { p with attrs := p.attrs ++ [w1] }
 else if w0 = (⟨#[115, 99, 104, 101, 109, 101]⟩ : Str) then { p with schemes := p.schemes ++ [w1] }
 else if w0 = (⟨#[99, 108, 97, 115, 115]⟩ : Str) then { p with classes := p.classes ++ [w1] }
 else if w0 = (⟨#[112, 114, 111, 112]⟩ : Str) then { p with props := p.props ++ [w1] }
 else p
def c_taken1 : AFn := ⟨1, 15, [3],
 .seq (.ops [oq 3 (.mv (.const (.int .i64 0)))])
 (.seq (.ops [oq 7 (.ld false 1 (.tmp 1)),
   oq 8 (.mv (.tmp 0)),
   oq 9 (.ixa 1 (.tmp 7) (.tmp 8)),
   oq 10 (.ld false 1 (.tmp 9)),
   oe 11 (.call 35 [(.tmp 10)]),
   oq 6 (.mv (.tmp 11)),
   oq 12 (.ext (.tmp 6) 0),
   oq 13 (.ext (.tmp 6) 1),
   oq 4 (.mv (.tmp 12)),
   oq 5 (.mv (.tmp 13))])
 (.seq (.ops [oq 14 (.mv (.tmp 4)),
   oq 3 (.mv (.tmp 14))])
 (.ret))), []⟩
theorem k_taken1 : compF Tryz.prog 111 = some c_taken1 := by kernel_rfl
set_option maxHeartbeats 2000000 in
theorem taken1_ok {W : World} (E : Errs W) {H : AHeap} {b T : Nat} {f : Bool} (ws : List Str) (i : Nat) (hb : H b = some (.cells T [.sl f 1 (strRows ws)])) (hi : i < ws.length) (hz : ∀ s ∈ ws, s.size ≤ 1000000000) :
  ACalls Tryz.prog W 111 [.v (.int .i64 (i : Int)), .v (.pointer (some ⟨b, 0, none⟩))] H fun v H' => v = .v (.int .i64 (numP (ws.getD i ByteArray.empty))) ∧ H' = H := by
 refine fn_run follows k_taken1 rfl ?_
 simp only [oq, og, oe, oh, on, c_taken1, aretC_nil, List.zipIdx_cons, List.zipIdx_nil, List.map_cons, List.map_nil, Nat.zero_add]
 have g1 : (i : Int) < (ws.length : Int) := by omega
 have g2 : (0 : Int) ≤ (i : Int) := by omega
 have hg := strRows_get hi
 have hget : ws.getD i ByteArray.empty = ws[i] := by simp [hi]
 have hsz := hz (ws.getD i ByteArray.empty) (by rw [hget]; exact List.getElem_mem _)
 (try simp +decide -implicitDefEqProofs only [go_sem, hb, g1, g2, hi, hg])
 refine stk_pure (atoi_ok E _ hsz) fun v hv => ?_
 obtain ⟨e, rfl, -⟩ := hv
 (try simp +decide -implicitDefEqProofs only [go_sem])
 exact ⟨.inr rfl, _, _, Sub.refl _, .refl _, rfl, rfl⟩
theorem RowO.rest {H H2 : AHeap} {E sz : Nat} {x y : AVal} {rows : List (List AVal)} (h : RowO H E sz y rows) (hr : Rest H H2 x) (ha : Apart x y) : RowO H2 E sz y rows := by
 cases h with
 | nil => exact .nil
 | @bs g n _ h hn => exact .bs (hr g _ h fun e => ha g e rfl) hn
theorem RowO.fresh {H : AHeap} {E sz b : Nat} {y : AVal} {rows : List (List AVal)} (h : RowO H E sz y rows) (hb : H b = none) : blkOf y ≠ some b := fun e => by
 have := h.blk e
 rw [hb] at this; cases this
theorem PolH.put {H : AHeap} {g b : Nat} {p : Pol} {x1 x2 x3 x4 x5 : AVal} {o : AObj} (h : PolH H g p x1 x2 x3 x4 x5) (hb : H b = none) : PolH (H.put b o) g p x1 x2 x3 x4 x5 :=
 ⟨(hp_ne _ _ (fun e => by have := h.here; rw [e, hb] at this; cases this)).trans h.here, h.r1.put (h.r1.fresh hb), h.r2.put (h.r2.fresh hb), h.r3.put (h.r3.fresh hb), h.r4.put (h.r4.fresh hb), h.r5.put (h.r5.fresh hb), h.a12, h.a13, h.a14, h.a15, h.a23, h.a24, h.a25, h.a34, h.a35, h.a45⟩
/-- Its numbers are set. -/
theorem PolH.nums {H : AHeap} {g : Nat} {p : Pol} {x1 x2 x3 x4 x5 : AVal} (h : PolH H g p x1 x2 x3 x4 x5) (e d n b : Int) : PolH (H.put g (.cells 36 [.v (.int .i64 e), x1, x2, x3, x4, x5, .v (.int .i64 d), .v (.int .i64 n), .v (.int .i64 b)])) g { p with epoch := e, depth := d, nodes := n, bytes := b } x1 x2 x3 x4 x5 :=
 ⟨hp_self _ _ _, h.r1.put (h.r1.notC h.here), h.r2.put (h.r2.notC h.here), h.r3.put (h.r3.notC h.here), h.r4.put (h.r4.notC h.here), h.r5.put (h.r5.notC h.here), h.a12, h.a13, h.a14, h.a15, h.a23, h.a24, h.a25, h.a34, h.a35, h.a45⟩
theorem PolH.app1 {H H2 : AHeap} {g : Nat} {p : Pol} {x1 x2 x3 x4 x5 y : AVal} {w : Str} (h : PolH H g p x1 x2 x3 x4 x5) (hy : RowO H2 9 1 y (strRows p.elems ++ [[.v (.string w)]])) (hr : Rest H H2 x1) (hf : ∀ c o, H c = some o → blkOf x1 ≠ some c → blkOf y ≠ some c) :
  PolH (H2.put g (.cells 36 [.v (.int .i64 p.epoch), y, x2, x3, x4, x5, .v (.int .i64 p.depth), .v (.int .i64 p.nodes), .v (.int .i64 p.bytes)])) g { p with elems := p.elems ++ [w] } y x2 x3 x4 x5 := by
 have hg : H2 g = _ := hr g _ h.here (h.r1.notC h.here)
 have hA : ∀ {z : AVal} {rows : List (List AVal)}, RowO H 9 1 z rows → Apart x1 z → Apart y z := fun {z rows} hz ha c hc hzc => hf c _ (hz.blk hzc) (fun e => ha c e hzc) hc
 have hy2 : RowO H2 9 1 y (strRows (p.elems ++ [w])) := by rw [← strRows_append]; exact hy
 have q2 := h.r2.rest hr (h.a12)
 have q3 := h.r3.rest hr (h.a13)
 have q4 := h.r4.rest hr (h.a14)
 have q5 := h.r5.rest hr (h.a15)
 exact ⟨hp_self _ _ _, hy2.put (hy2.notC hg), q2.put (q2.notC hg), q3.put (q3.notC hg), q4.put (q4.notC hg), q5.put (q5.notC hg), hA h.r2 (h.a12), hA h.r3 (h.a13), hA h.r4 (h.a14), hA h.r5 (h.a15), h.a23, h.a24, h.a25, h.a34, h.a35, h.a45⟩
theorem PolH.app2 {H H2 : AHeap} {g : Nat} {p : Pol} {x1 x2 x3 x4 x5 y : AVal} {w : Str} (h : PolH H g p x1 x2 x3 x4 x5) (hy : RowO H2 9 1 y (strRows p.attrs ++ [[.v (.string w)]])) (hr : Rest H H2 x2) (hf : ∀ c o, H c = some o → blkOf x2 ≠ some c → blkOf y ≠ some c) :
  PolH (H2.put g (.cells 36 [.v (.int .i64 p.epoch), x1, y, x3, x4, x5, .v (.int .i64 p.depth), .v (.int .i64 p.nodes), .v (.int .i64 p.bytes)])) g { p with attrs := p.attrs ++ [w] } x1 y x3 x4 x5 := by
 have hg : H2 g = _ := hr g _ h.here (h.r2.notC h.here)
 have hA : ∀ {z : AVal} {rows : List (List AVal)}, RowO H 9 1 z rows → Apart x2 z → Apart y z := fun {z rows} hz ha c hc hzc => hf c _ (hz.blk hzc) (fun e => ha c e hzc) hc
 have hy2 : RowO H2 9 1 y (strRows (p.attrs ++ [w])) := by rw [← strRows_append]; exact hy
 have q1 := h.r1.rest hr (h.a12.symm)
 have q3 := h.r3.rest hr (h.a23)
 have q4 := h.r4.rest hr (h.a24)
 have q5 := h.r5.rest hr (h.a25)
 exact ⟨hp_self _ _ _, q1.put (q1.notC hg), hy2.put (hy2.notC hg), q3.put (q3.notC hg), q4.put (q4.notC hg), q5.put (q5.notC hg), (hA h.r1 (h.a12.symm)).symm, h.a13, h.a14, h.a15, hA h.r3 (h.a23), hA h.r4 (h.a24), hA h.r5 (h.a25), h.a34, h.a35, h.a45⟩
theorem PolH.app3 {H H2 : AHeap} {g : Nat} {p : Pol} {x1 x2 x3 x4 x5 y : AVal} {w : Str} (h : PolH H g p x1 x2 x3 x4 x5) (hy : RowO H2 9 1 y (strRows p.schemes ++ [[.v (.string w)]])) (hr : Rest H H2 x3) (hf : ∀ c o, H c = some o → blkOf x3 ≠ some c → blkOf y ≠ some c) :
  PolH (H2.put g (.cells 36 [.v (.int .i64 p.epoch), x1, x2, y, x4, x5, .v (.int .i64 p.depth), .v (.int .i64 p.nodes), .v (.int .i64 p.bytes)])) g { p with schemes := p.schemes ++ [w] } x1 x2 y x4 x5 := by
 have hg : H2 g = _ := hr g _ h.here (h.r3.notC h.here)
 have hA : ∀ {z : AVal} {rows : List (List AVal)}, RowO H 9 1 z rows → Apart x3 z → Apart y z := fun {z rows} hz ha c hc hzc => hf c _ (hz.blk hzc) (fun e => ha c e hzc) hc
 have hy2 : RowO H2 9 1 y (strRows (p.schemes ++ [w])) := by rw [← strRows_append]; exact hy
 have q1 := h.r1.rest hr (h.a13.symm)
 have q2 := h.r2.rest hr (h.a23.symm)
 have q4 := h.r4.rest hr (h.a34)
 have q5 := h.r5.rest hr (h.a35)
 exact ⟨hp_self _ _ _, q1.put (q1.notC hg), q2.put (q2.notC hg), hy2.put (hy2.notC hg), q4.put (q4.notC hg), q5.put (q5.notC hg), h.a12, (hA h.r1 (h.a13.symm)).symm, h.a14, h.a15, (hA h.r2 (h.a23.symm)).symm, h.a24, h.a25, hA h.r4 (h.a34), hA h.r5 (h.a35), h.a45⟩
theorem PolH.app4 {H H2 : AHeap} {g : Nat} {p : Pol} {x1 x2 x3 x4 x5 y : AVal} {w : Str} (h : PolH H g p x1 x2 x3 x4 x5) (hy : RowO H2 9 1 y (strRows p.classes ++ [[.v (.string w)]])) (hr : Rest H H2 x4) (hf : ∀ c o, H c = some o → blkOf x4 ≠ some c → blkOf y ≠ some c) :
  PolH (H2.put g (.cells 36 [.v (.int .i64 p.epoch), x1, x2, x3, y, x5, .v (.int .i64 p.depth), .v (.int .i64 p.nodes), .v (.int .i64 p.bytes)])) g { p with classes := p.classes ++ [w] } x1 x2 x3 y x5 := by
 have hg : H2 g = _ := hr g _ h.here (h.r4.notC h.here)
 have hA : ∀ {z : AVal} {rows : List (List AVal)}, RowO H 9 1 z rows → Apart x4 z → Apart y z := fun {z rows} hz ha c hc hzc => hf c _ (hz.blk hzc) (fun e => ha c e hzc) hc
 have hy2 : RowO H2 9 1 y (strRows (p.classes ++ [w])) := by rw [← strRows_append]; exact hy
 have q1 := h.r1.rest hr (h.a14.symm)
 have q2 := h.r2.rest hr (h.a24.symm)
 have q3 := h.r3.rest hr (h.a34.symm)
 have q5 := h.r5.rest hr (h.a45)
 exact ⟨hp_self _ _ _, q1.put (q1.notC hg), q2.put (q2.notC hg), q3.put (q3.notC hg), hy2.put (hy2.notC hg), q5.put (q5.notC hg), h.a12, h.a13, (hA h.r1 (h.a14.symm)).symm, h.a15, h.a23, (hA h.r2 (h.a24.symm)).symm, h.a25, (hA h.r3 (h.a34.symm)).symm, h.a35, hA h.r5 (h.a45)⟩
theorem PolH.app5 {H H2 : AHeap} {g : Nat} {p : Pol} {x1 x2 x3 x4 x5 y : AVal} {w : Str} (h : PolH H g p x1 x2 x3 x4 x5) (hy : RowO H2 9 1 y (strRows p.props ++ [[.v (.string w)]])) (hr : Rest H H2 x5) (hf : ∀ c o, H c = some o → blkOf x5 ≠ some c → blkOf y ≠ some c) :
  PolH (H2.put g (.cells 36 [.v (.int .i64 p.epoch), x1, x2, x3, x4, y, .v (.int .i64 p.depth), .v (.int .i64 p.nodes), .v (.int .i64 p.bytes)])) g { p with props := p.props ++ [w] } x1 x2 x3 x4 y := by
 have hg : H2 g = _ := hr g _ h.here (h.r5.notC h.here)
 have hA : ∀ {z : AVal} {rows : List (List AVal)}, RowO H 9 1 z rows → Apart x5 z → Apart y z := fun {z rows} hz ha c hc hzc => hf c _ (hz.blk hzc) (fun e => ha c e hzc) hc
 have hy2 : RowO H2 9 1 y (strRows (p.props ++ [w])) := by rw [← strRows_append]; exact hy
 have q1 := h.r1.rest hr (h.a15.symm)
 have q2 := h.r2.rest hr (h.a25.symm)
 have q3 := h.r3.rest hr (h.a35.symm)
 have q4 := h.r4.rest hr (h.a45.symm)
 exact ⟨hp_self _ _ _, q1.put (q1.notC hg), q2.put (q2.notC hg), q3.put (q3.notC hg), q4.put (q4.notC hg), hy2.put (hy2.notC hg), h.a12, h.a13, h.a14, (hA h.r1 (h.a15.symm)).symm, h.a23, h.a24, (hA h.r2 (h.a25.symm)).symm, h.a34, (hA h.r3 (h.a35.symm)).symm, (hA h.r4 (h.a45.symm)).symm⟩
/-- All other structs that are owned stay. -/
def Keeps (H H' : AHeap) (g : Nat) : Prop := ∀ c T cs, H c = some (.cells T cs) → c ≠ g → H' c = some (.cells T cs)
theorem Keeps.put {H H' : AHeap} {g : Nat} {o : AObj} (h : Keeps H H' g) : Keeps H (H'.put g o) g := fun c T cs h1 h2 => (hp_ne _ _ h2).trans (h c T cs h1 h2)
theorem Keeps.rest {H H' H2 : AHeap} {g E sz : Nat} {x : AVal} {rows : List (List AVal)} (h : Keeps H H' g) (hx : RowO H' E sz x rows) (hr : Rest H' H2 x) : Keeps H H2 g := fun c T cs h1 h2 => hr c _ (h c T cs h1 h2) (hx.notC (h c T cs h1 h2))
def c_taken : AFn := ⟨2, 130, [],
 .seq (.ops [oe 3 (.box 34 (.tmp 1))])
 (.seq (.ops [oq 5 (.mkf 111 [(.tmp 3)]),
   oq 4 (.mv (.tmp 5))])
 (.block 0 (.seq (.ops [oq 7 (.ld false 1 (.tmp 3)),
    oq 8 (.len false (.tmp 7)),
    oq 9 (.bin .eql .num (.tmp 8) (.const (.int .i64 4))),
    oq 10 (.mv (.tmp 9)),
    og 11 10 true (.ld false 1 (.tmp 3)),
    og 12 10 true (.ixa 1 (.tmp 11) (.const (.int .i64 0))),
    og 13 10 true (.ld false 1 (.tmp 12)),
    og 14 10 true (.bin .eql .num (.tmp 13) (.const (.string ⟨#[99, 97, 112, 115]⟩))),
    oq 15 (.pick (.tmp 10) (.tmp 14) (.const (.bool false))),
    oq 6 (.mv (.tmp 15))])
  (.cond (.tmp 6)
   (.ops [oq 16 (.mv (.tmp 0)),
     oq 17 (.mv (.tmp 0)),
     oq 18 (.mv (.tmp 0)),
     oq 19 (.mv (.tmp 4)),
     oe 20 (.callv (.tmp 19) [(.const (.int .i64 1))]),
     oq 21 (.mv (.tmp 4)),
     oe 22 (.callv (.tmp 21) [(.const (.int .i64 2))]),
     oq 23 (.mv (.tmp 4)),
     oe 24 (.callv (.tmp 23) [(.const (.int .i64 3))]),
     oq 25 (.nck (.tmp 16)),
     oq 26 (.fad 6 1 (.tmp 25)),
     on (.st 1 (.tmp 26) (.tmp 20)),
     oq 27 (.nck (.tmp 17)),
     oq 28 (.fad 7 1 (.tmp 27)),
     on (.st 1 (.tmp 28) (.tmp 22)),
     oq 29 (.nck (.tmp 18)),
     oq 30 (.fad 8 1 (.tmp 29)),
     on (.st 1 (.tmp 30) (.tmp 24))])
   (.seq (.ops [oq 32 (.ld false 1 (.tmp 3)),
     oq 33 (.len false (.tmp 32)),
     oq 34 (.bin .neq .num (.tmp 33) (.const (.int .i64 2))),
     oq 31 (.mv (.tmp 34))])
   (.cond (.tmp 31)
    (.skip)
    (.seq (.ops [oq 36 (.ld false 1 (.tmp 3)),
      oq 37 (.ixa 1 (.tmp 36) (.const (.int .i64 0))),
      oq 38 (.ld false 1 (.tmp 37)),
      oq 39 (.bin .eql .num (.tmp 38) (.const (.string ⟨#[101, 112, 111, 99, 104]⟩))),
      oq 35 (.mv (.tmp 39))])
    (.cond (.tmp 35)
     (.ops [oq 40 (.mv (.tmp 0)),
       oq 41 (.mv (.tmp 4)),
       oe 42 (.callv (.tmp 41) [(.const (.int .i64 1))]),
       oq 43 (.nck (.tmp 40)),
       oq 44 (.fad 0 1 (.tmp 43)),
       on (.st 1 (.tmp 44) (.tmp 42))])
     (.seq (.ops [oq 46 (.ld false 1 (.tmp 3)),
       oq 47 (.ixa 1 (.tmp 46) (.const (.int .i64 0))),
       oq 48 (.ld false 1 (.tmp 47)),
       oq 49 (.bin .eql .num (.tmp 48) (.const (.string ⟨#[101, 108, 101, 109]⟩))),
       oq 45 (.mv (.tmp 49))])
     (.cond (.tmp 45)
      (.ops [oq 50 (.mv (.tmp 0)),
        oq 51 (.mv (.tmp 0)),
        oq 52 (.nck (.tmp 51)),
        oq 53 (.fad 1 1 (.tmp 52)),
        oq 54 (.ld false 1 (.tmp 53)),
        oq 55 (.ld false 1 (.tmp 3)),
        oq 56 (.ixa 1 (.tmp 55) (.const (.int .i64 1))),
        oq 57 (.ld false 1 (.tmp 56)),
        oe 58 (.bsl 9 1 [(.tmp 57)]),
        oe 59 (.app 9 1 16 false (.tmp 54) (.tmp 58)),
        oq 60 (.nck (.tmp 50)),
        oq 61 (.fad 1 1 (.tmp 60)),
        on (.st 1 (.tmp 61) (.tmp 59))])
      (.seq (.ops [oq 63 (.ld false 1 (.tmp 3)),
        oq 64 (.ixa 1 (.tmp 63) (.const (.int .i64 0))),
        oq 65 (.ld false 1 (.tmp 64)),
        oq 66 (.bin .eql .num (.tmp 65) (.const (.string ⟨#[97, 116, 116, 114]⟩))),
        oq 62 (.mv (.tmp 66))])
      (.cond (.tmp 62)
       (.ops [oq 67 (.mv (.tmp 0)),
         oq 68 (.mv (.tmp 0)),
         oq 69 (.nck (.tmp 68)),
         oq 70 (.fad 2 1 (.tmp 69)),
         oq 71 (.ld false 1 (.tmp 70)),
         oq 72 (.ld false 1 (.tmp 3)),
         oq 73 (.ixa 1 (.tmp 72) (.const (.int .i64 1))),
         oq 74 (.ld false 1 (.tmp 73)),
         oe 75 (.bsl 9 1 [(.tmp 74)]),
         oe 76 (.app 9 1 16 false (.tmp 71) (.tmp 75)),
         oq 77 (.nck (.tmp 67)),
         oq 78 (.fad 2 1 (.tmp 77)),
         on (.st 1 (.tmp 78) (.tmp 76))])
       (.seq (.ops [oq 80 (.ld false 1 (.tmp 3)),
         oq 81 (.ixa 1 (.tmp 80) (.const (.int .i64 0))),
         oq 82 (.ld false 1 (.tmp 81)),
         oq 83 (.bin .eql .num (.tmp 82) (.const (.string ⟨#[115, 99, 104, 101, 109, 101]⟩))),
         oq 79 (.mv (.tmp 83))])
       (.cond (.tmp 79)
        (.ops [oq 84 (.mv (.tmp 0)),
          oq 85 (.mv (.tmp 0)),
          oq 86 (.nck (.tmp 85)),
          oq 87 (.fad 3 1 (.tmp 86)),
          oq 88 (.ld false 1 (.tmp 87)),
          oq 89 (.ld false 1 (.tmp 3)),
          oq 90 (.ixa 1 (.tmp 89) (.const (.int .i64 1))),
          oq 91 (.ld false 1 (.tmp 90)),
          oe 92 (.bsl 9 1 [(.tmp 91)]),
          oe 93 (.app 9 1 16 false (.tmp 88) (.tmp 92)),
          oq 94 (.nck (.tmp 84)),
          oq 95 (.fad 3 1 (.tmp 94)),
          on (.st 1 (.tmp 95) (.tmp 93))])
        (.seq (.ops [oq 97 (.ld false 1 (.tmp 3)),
          oq 98 (.ixa 1 (.tmp 97) (.const (.int .i64 0))),
          oq 99 (.ld false 1 (.tmp 98)),
          oq 100 (.bin .eql .num (.tmp 99) (.const (.string ⟨#[99, 108, 97, 115, 115]⟩))),
          oq 96 (.mv (.tmp 100))])
        (.cond (.tmp 96)
         (.ops [oq 101 (.mv (.tmp 0)),
           oq 102 (.mv (.tmp 0)),
           oq 103 (.nck (.tmp 102)),
           oq 104 (.fad 4 1 (.tmp 103)),
           oq 105 (.ld false 1 (.tmp 104)),
           oq 106 (.ld false 1 (.tmp 3)),
           oq 107 (.ixa 1 (.tmp 106) (.const (.int .i64 1))),
           oq 108 (.ld false 1 (.tmp 107)),
           oe 109 (.bsl 9 1 [(.tmp 108)]),
           oe 110 (.app 9 1 16 false (.tmp 105) (.tmp 109)),
           oq 111 (.nck (.tmp 101)),
           oq 112 (.fad 4 1 (.tmp 111)),
           on (.st 1 (.tmp 112) (.tmp 110))])
         (.seq (.ops [oq 114 (.ld false 1 (.tmp 3)),
           oq 115 (.ixa 1 (.tmp 114) (.const (.int .i64 0))),
           oq 116 (.ld false 1 (.tmp 115)),
           oq 117 (.bin .eql .num (.tmp 116) (.const (.string ⟨#[112, 114, 111, 112]⟩))),
           oq 113 (.mv (.tmp 117))])
         (.cond (.tmp 113)
          (.ops [oq 118 (.mv (.tmp 0)),
            oq 119 (.mv (.tmp 0)),
            oq 120 (.nck (.tmp 119)),
            oq 121 (.fad 5 1 (.tmp 120)),
            oq 122 (.ld false 1 (.tmp 121)),
            oq 123 (.ld false 1 (.tmp 3)),
            oq 124 (.ixa 1 (.tmp 123) (.const (.int .i64 1))),
            oq 125 (.ld false 1 (.tmp 124)),
            oe 126 (.bsl 9 1 [(.tmp 125)]),
            oe 127 (.app 9 1 16 false (.tmp 122) (.tmp 126)),
            oq 128 (.nck (.tmp 118)),
            oq 129 (.fad 5 1 (.tmp 128)),
            on (.st 1 (.tmp 129) (.tmp 127))])
          (.skip))))))))))))))))))), []⟩
theorem k_taken : compF Tryz.prog 68 = some c_taken := by kernel_rfl
set_option maxHeartbeats 16000000 in
theorem taken_ok {W : World} (E : Errs W) {H : AHeap} {g : Nat} {f : Bool} {p : Pol} {x1 x2 x3 x4 x5 : AVal} (ws : List Str) (hP : PolH H g p x1 x2 x3 x4 x5) (hl : ws.length ≤ 1000000) (hz : ∀ s ∈ ws, s.size ≤ 1000000000) (hb1 : p.elems.length ≤ 1000000 ∧ p.attrs.length ≤ 1000000 ∧ p.schemes.length ≤ 1000000 ∧ p.classes.length ≤ 1000000 ∧ p.props.length ≤ 1000000) :
  ACalls Tryz.prog W 68 [.v (.pointer (some ⟨g, 0, none⟩)), .sl f 1 (strRows ws)] H fun _ H' => (∃ y1 y2 y3 y4 y5, PolH H' g (takenP p ws) y1 y2 y3 y4 y5) ∧ Keeps H H' g := by
 refine fn_run follows k_taken rfl ?_
 simp only [oq, og, oe, oh, on, c_taken, aretC_nil, List.zipIdx_cons, List.zipIdx_nil, List.map_cons, List.map_nil, Nat.zero_add]
 (try simp +decide -implicitDefEqProofs only [go_sem])
 rw [stk_box]
 refine ⟨by rfl, fun b hb => ?_⟩
 have hP1 := hP.put (o := .cells 34 [.sl f 1 (strRows ws)]) hb
 have k1 : (H.put b (.cells 34 [.sl f 1 (strRows ws)])) b = some (.cells 34 [.sl f 1 (strRows ws)]) := hp_self _ _ _
 have hT : ∀ q : Pol, takenP p ws = q → q = takenP p ws := fun q h => h.symm
 show stk Tryz.prog W _ _ _ (AState.mk _ (H.put b (.cells 34 [.sl f 1 (strRows ws)])))
 have hb0 : H b = none := hb
 have hK : Keeps H (H.put b (.cells 34 [.sl f 1 (strRows ws)])) g := fun c T cs h1 h2 => (hp_ne _ _ (fun e => by rw [e, hb0] at h1; cases h1)).trans h1
 generalize H.put b (.cells 34 [.sl f 1 (strRows ws)]) = H1 at hP1 k1 hK ⊢
 clear hP hb hb0
 have hhere := hP1.here
 have t1 : (1 : Int).toNat = 1 := rfl
 by_cases l4 : ws.length = 4
 ·have d4 : decide ((ws.length : Int) = 4) = true := decide_eq_true (by omega)
  have i0 : (0 : Int) < (ws.length : Int) := by omega
  have g0 := strRows_get (l := ws) (i := 0) (by omega)
  by_cases w0 : ws.getD 0 ByteArray.empty = (⟨#[99, 97, 112, 115]⟩ : Str)
  ·have e0 : decide (ws.getD 0 ByteArray.empty = ((⟨#[99, 97, 112, 115]⟩ : ByteArray))) = true := decide_eq_true w0
   have ht : takenP p ws = { p with depth := numP (ws.getD 1 ByteArray.empty), nodes := numP (ws.getD 2 ByteArray.empty), bytes := numP (ws.getD 3 ByteArray.empty) } := by
    unfold takenP; rw [if_pos ⟨l4, w0⟩]
   rw [ht]
   (try simp +decide -implicitDefEqProofs only [go_sem, d4, k1, i0, g0, e0])
   refine stk_callvH (f := 111) (caps := [.v (.pointer (some ⟨b, 0, none⟩))]) (by rfl) (by kernel_rfl) (taken1_ok E ws 1 k1 (by omega) hz) fun v H' hv => ?_
   obtain ⟨rfl, rfl⟩ := hv
   (try simp +decide -implicitDefEqProofs only [go_sem])
   refine stk_callvH (f := 111) (caps := [.v (.pointer (some ⟨b, 0, none⟩))]) (by rfl) (by kernel_rfl) (taken1_ok E ws 2 k1 (by omega) hz) fun v H' hv => ?_
   obtain ⟨rfl, rfl⟩ := hv
   (try simp +decide -implicitDefEqProofs only [go_sem])
   refine stk_callvH (f := 111) (caps := [.v (.pointer (some ⟨b, 0, none⟩))]) (by rfl) (by kernel_rfl) (taken1_ok E ws 3 k1 (by omega) hz) fun v H' hv => ?_
   obtain ⟨rfl, rfl⟩ := hv
   (try simp +decide -implicitDefEqProofs only [go_sem, hhere, hp_self])
   exact ⟨.inl rfl, _, .any, Sub.refl _, .any _, ⟨x1, x2, x3, x4, x5, hP1.nums _ _ _ _⟩, hK.put⟩
  ·have e0 : decide (ws.getD 0 ByteArray.empty = ((⟨#[99, 97, 112, 115]⟩ : ByteArray))) = false := decide_eq_false w0
   have d2 : decide ((ws.length : Int) ≠ 2) = true := decide_eq_true (by omega)
   have ht : takenP p ws = p := by
    unfold takenP; rw [if_neg (fun h => w0 h.2), if_pos (by omega)]
   rw [ht]
   (try simp +decide -implicitDefEqProofs only [go_sem, d4, d2, k1, i0, g0, e0])
   exact ⟨.inl rfl, _, .any, Sub.refl _, .any _, ⟨x1, x2, x3, x4, x5, hP1⟩, hK⟩
 have d4 : decide ((ws.length : Int) = 4) = false := decide_eq_false (by omega)
 by_cases l2 : ws.length = 2
 rotate_left
 ·have d2 : decide ((ws.length : Int) ≠ 2) = true := decide_eq_true (by omega)
  have ht : takenP p ws = p := by
   unfold takenP; rw [if_neg (fun h => l4 h.1), if_pos l2]
  rw [ht]
  (try simp +decide -implicitDefEqProofs only [go_sem, d4, d2, k1])
  exact ⟨.inl rfl, _, .any, Sub.refl _, .any _, ⟨x1, x2, x3, x4, x5, hP1⟩, hK⟩
 have d2 : decide ((ws.length : Int) ≠ 2) = false := by simp; omega
 have i0 : (0 : Int) < (ws.length : Int) := by omega
 have i1 : (1 : Int) < (ws.length : Int) := by omega
 have g0 := strRows_get (l := ws) (i := 0) (by omega)
 have g1 := strRows_get (l := ws) (i := 1) (by omega)
 by_cases w0 : ws.getD 0 ByteArray.empty = (⟨#[101, 112, 111, 99, 104]⟩ : Str)
 ·have e0 : decide (ws.getD 0 ByteArray.empty = ((⟨#[101, 112, 111, 99, 104]⟩ : ByteArray))) = true := decide_eq_true w0
  have ht : takenP p ws = { p with epoch := numP (ws.getD 1 ByteArray.empty) } := by
   unfold takenP; rw [if_neg (fun h => l4 h.1), if_neg (by omega), if_pos w0]
  rw [ht]
  (try simp +decide -implicitDefEqProofs only [go_sem, d4, d2, k1, i0, g0, e0])
  refine stk_callvH (f := 111) (caps := [.v (.pointer (some ⟨b, 0, none⟩))]) (by rfl) (by kernel_rfl) (taken1_ok E ws 1 k1 (by omega) hz) fun v H' hv => ?_
  obtain ⟨rfl, rfl⟩ := hv
  (try simp +decide -implicitDefEqProofs only [go_sem, hhere, hp_self])
  exact ⟨.inl rfl, _, .any, Sub.refl _, .any _, ⟨x1, x2, x3, x4, x5, hP1.nums _ _ _ _⟩, hK.put⟩
 have e0 : decide (ws.getD 0 ByteArray.empty = ((⟨#[101, 112, 111, 99, 104]⟩ : ByteArray))) = false := decide_eq_false w0
 by_cases w1 : ws.getD 0 ByteArray.empty = (⟨#[101, 108, 101, 109]⟩ : Str)
 ·have e1 : decide (ws.getD 0 ByteArray.empty = ((⟨#[101, 108, 101, 109]⟩ : ByteArray))) = true := decide_eq_true w1
  have ht : takenP p ws = { p with elems := p.elems ++ [ws.getD 1 ByteArray.empty] } := by
   unfold takenP; rw [if_neg (fun h => l4 h.1), if_neg (by omega), if_neg w0, if_pos w1]
  rw [ht]
  have hxb := hP1.r1.notC hhere
  obtain rfl | ⟨c, m, rfl⟩ := hP1.r1.shape
  all_goals (
   (try simp +decide -implicitDefEqProofs only [go_sem, d4, d2, k1, i0, i1, t1, g0, g1, e0, e1, hhere])
   refine stk_appX (rows := strRows p.elems) (new := [[.v (.string (ws.getD 1 ByteArray.empty))]]) hP1.r1 (by rfl) (by simp only [strRows_len, List.length_cons, List.length_nil]; omega) fun y H2 hy hr hf => ?_
   have hg2 := hr g _ hhere hxb
   have hfin := hP1.app1 hy hr hf
   have hK2 := hK.rest hP1.r1 hr
   obtain rfl | ⟨c2, m2, rfl⟩ := hy.shape
   all_goals (
    (try simp +decide -implicitDefEqProofs only [go_sem, hg2, hp_self])
    exact ⟨.inl rfl, _, .any, Sub.refl _, .any _, ⟨_, _, _, _, _, hfin⟩, hK2.put⟩))
 have e1 : decide (ws.getD 0 ByteArray.empty = ((⟨#[101, 108, 101, 109]⟩ : ByteArray))) = false := decide_eq_false w1
 by_cases w2 : ws.getD 0 ByteArray.empty = (⟨#[97, 116, 116, 114]⟩ : Str)
 ·have e2 : decide (ws.getD 0 ByteArray.empty = ((⟨#[97, 116, 116, 114]⟩ : ByteArray))) = true := decide_eq_true w2
  have ht : takenP p ws = { p with attrs := p.attrs ++ [ws.getD 1 ByteArray.empty] } := by
   unfold takenP; rw [if_neg (fun h => l4 h.1), if_neg (by omega), if_neg w0, if_neg w1, if_pos w2]
  rw [ht]
  have hxb := hP1.r2.notC hhere
  obtain rfl | ⟨c, m, rfl⟩ := hP1.r2.shape
  all_goals (
   (try simp +decide -implicitDefEqProofs only [go_sem, d4, d2, k1, i0, i1, t1, g0, g1, e0, e1, e2, hhere])
   refine stk_appX (rows := strRows p.attrs) (new := [[.v (.string (ws.getD 1 ByteArray.empty))]]) hP1.r2 (by rfl) (by simp only [strRows_len, List.length_cons, List.length_nil]; omega) fun y H2 hy hr hf => ?_
   have hg2 := hr g _ hhere hxb
   have hfin := hP1.app2 hy hr hf
   have hK2 := hK.rest hP1.r2 hr
   obtain rfl | ⟨c2, m2, rfl⟩ := hy.shape
   all_goals (
    (try simp +decide -implicitDefEqProofs only [go_sem, hg2, hp_self])
    exact ⟨.inl rfl, _, .any, Sub.refl _, .any _, ⟨_, _, _, _, _, hfin⟩, hK2.put⟩))
 have e2 : decide (ws.getD 0 ByteArray.empty = ((⟨#[97, 116, 116, 114]⟩ : ByteArray))) = false := decide_eq_false w2
 by_cases w3 : ws.getD 0 ByteArray.empty = (⟨#[115, 99, 104, 101, 109, 101]⟩ : Str)
 ·have e3 : decide (ws.getD 0 ByteArray.empty = ((⟨#[115, 99, 104, 101, 109, 101]⟩ : ByteArray))) = true := decide_eq_true w3
  have ht : takenP p ws = { p with schemes := p.schemes ++ [ws.getD 1 ByteArray.empty] } := by
   unfold takenP; rw [if_neg (fun h => l4 h.1), if_neg (by omega), if_neg w0, if_neg w1, if_neg w2, if_pos w3]
  rw [ht]
  have hxb := hP1.r3.notC hhere
  obtain rfl | ⟨c, m, rfl⟩ := hP1.r3.shape
  all_goals (
   (try simp +decide -implicitDefEqProofs only [go_sem, d4, d2, k1, i0, i1, t1, g0, g1, e0, e1, e2, e3, hhere])
   refine stk_appX (rows := strRows p.schemes) (new := [[.v (.string (ws.getD 1 ByteArray.empty))]]) hP1.r3 (by rfl) (by simp only [strRows_len, List.length_cons, List.length_nil]; omega) fun y H2 hy hr hf => ?_
   have hg2 := hr g _ hhere hxb
   have hfin := hP1.app3 hy hr hf
   have hK2 := hK.rest hP1.r3 hr
   obtain rfl | ⟨c2, m2, rfl⟩ := hy.shape
   all_goals (
    (try simp +decide -implicitDefEqProofs only [go_sem, hg2, hp_self])
    exact ⟨.inl rfl, _, .any, Sub.refl _, .any _, ⟨_, _, _, _, _, hfin⟩, hK2.put⟩))
 have e3 : decide (ws.getD 0 ByteArray.empty = ((⟨#[115, 99, 104, 101, 109, 101]⟩ : ByteArray))) = false := decide_eq_false w3
 by_cases w4 : ws.getD 0 ByteArray.empty = (⟨#[99, 108, 97, 115, 115]⟩ : Str)
 ·have e4 : decide (ws.getD 0 ByteArray.empty = ((⟨#[99, 108, 97, 115, 115]⟩ : ByteArray))) = true := decide_eq_true w4
  have ht : takenP p ws = { p with classes := p.classes ++ [ws.getD 1 ByteArray.empty] } := by
   unfold takenP; rw [if_neg (fun h => l4 h.1), if_neg (by omega), if_neg w0, if_neg w1, if_neg w2, if_neg w3, if_pos w4]
  rw [ht]
  have hxb := hP1.r4.notC hhere
  obtain rfl | ⟨c, m, rfl⟩ := hP1.r4.shape
  all_goals (
   (try simp +decide -implicitDefEqProofs only [go_sem, d4, d2, k1, i0, i1, t1, g0, g1, e0, e1, e2, e3, e4, hhere])
   refine stk_appX (rows := strRows p.classes) (new := [[.v (.string (ws.getD 1 ByteArray.empty))]]) hP1.r4 (by rfl) (by simp only [strRows_len, List.length_cons, List.length_nil]; omega) fun y H2 hy hr hf => ?_
   have hg2 := hr g _ hhere hxb
   have hfin := hP1.app4 hy hr hf
   have hK2 := hK.rest hP1.r4 hr
   obtain rfl | ⟨c2, m2, rfl⟩ := hy.shape
   all_goals (
    (try simp +decide -implicitDefEqProofs only [go_sem, hg2, hp_self])
    exact ⟨.inl rfl, _, .any, Sub.refl _, .any _, ⟨_, _, _, _, _, hfin⟩, hK2.put⟩))
 have e4 : decide (ws.getD 0 ByteArray.empty = ((⟨#[99, 108, 97, 115, 115]⟩ : ByteArray))) = false := decide_eq_false w4
 by_cases w5 : ws.getD 0 ByteArray.empty = (⟨#[112, 114, 111, 112]⟩ : Str)
 ·have e5 : decide (ws.getD 0 ByteArray.empty = ((⟨#[112, 114, 111, 112]⟩ : ByteArray))) = true := decide_eq_true w5
  have ht : takenP p ws = { p with props := p.props ++ [ws.getD 1 ByteArray.empty] } := by
   unfold takenP; rw [if_neg (fun h => l4 h.1), if_neg (by omega), if_neg w0, if_neg w1, if_neg w2, if_neg w3, if_neg w4, if_pos w5]
  rw [ht]
  have hxb := hP1.r5.notC hhere
  obtain rfl | ⟨c, m, rfl⟩ := hP1.r5.shape
  all_goals (
   (try simp +decide -implicitDefEqProofs only [go_sem, d4, d2, k1, i0, i1, t1, g0, g1, e0, e1, e2, e3, e4, e5, hhere])
   refine stk_appX (rows := strRows p.props) (new := [[.v (.string (ws.getD 1 ByteArray.empty))]]) hP1.r5 (by rfl) (by simp only [strRows_len, List.length_cons, List.length_nil]; omega) fun y H2 hy hr hf => ?_
   have hg2 := hr g _ hhere hxb
   have hfin := hP1.app5 hy hr hf
   have hK2 := hK.rest hP1.r5 hr
   obtain rfl | ⟨c2, m2, rfl⟩ := hy.shape
   all_goals (
    (try simp +decide -implicitDefEqProofs only [go_sem, hg2, hp_self])
    exact ⟨.inl rfl, _, .any, Sub.refl _, .any _, ⟨_, _, _, _, _, hfin⟩, hK2.put⟩))
 have e5 : decide (ws.getD 0 ByteArray.empty = ((⟨#[112, 114, 111, 112]⟩ : ByteArray))) = false := decide_eq_false w5
 have ht : takenP p ws = p := by
  unfold takenP; rw [if_neg (fun h => l4 h.1), if_neg (by omega), if_neg w0, if_neg w1, if_neg w2, if_neg w3, if_neg w4, if_neg w5]
 rw [ht]
 (try simp +decide -implicitDefEqProofs only [go_sem, d4, d2, k1, i0, g0, e0, e1, e2, e3, e4, e5])
 exact ⟨.inl rfl, _, .any, Sub.refl _, .any _, ⟨x1, x2, x3, x4, x5, hP1⟩, hK⟩
end Go.Proofs.YtfaodacmdlnabaaGreatDoor.M
