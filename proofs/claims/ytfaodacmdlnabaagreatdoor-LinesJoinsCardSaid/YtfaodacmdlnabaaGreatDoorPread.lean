/-
 The policy of a text: walked.
-/
import Derived.Test.YtfaodacmdlnabaaGreatDoorPtaken
import Derived.Test.YtfaodacmdlnabaaGreatDoorPf
namespace Go.Proofs.YtfaodacmdlnabaaGreatDoor.M
open Go.RowKit
set_option linter.unusedVariables false
set_option linter.unusedSimpArgs false
def pol0 : Pol := ⟨0, [], [], [], [], [], 0, 0, 0⟩
def readP (s : Str) : Pol := (splitS s nlS).foldl (fun p l => takenP p (splitS l spS)) pol0
def readR (s : Str) : AVal := if rightP (readP s) = true ∧ textP (readP s) = s then .tup [.agg (polCells (readP s)), .v (.int .i64 0)] else .tup [.agg (polCells pol0), .v (.int .i64 2)]
structure Small (p : Pol) (n m : Nat) : Prop where
 elems : p.elems.length ≤ n
 attrs : p.attrs.length ≤ n
 schemes : p.schemes.length ≤ n
 classes : p.classes.length ≤ n
 props : p.props.length ≤ n
 elemz : ∀ s ∈ p.elems, s.size ≤ m
 attrz : ∀ s ∈ p.attrs, s.size ≤ m
 schemez : ∀ s ∈ p.schemes, s.size ≤ m
 classez : ∀ s ∈ p.classes, s.size ≤ m
 propz : ∀ s ∈ p.props, s.size ≤ m
theorem Small.fits {p : Pol} {n m : Nat} (h : Small p n m) (hn : n ≤ 20000) (hm : m ≤ 20000) : Fits p :=
 ⟨Nat.le_trans h.elems hn, Nat.le_trans h.attrs hn, Nat.le_trans h.schemes hn, Nat.le_trans h.classes hn, Nat.le_trans h.props hn, fun l hl s hs => by
  simp only [List.mem_cons, List.not_mem_nil, or_false] at hl
  rcases hl with rfl | rfl | rfl | rfl | rfl
  ·exact Nat.le_trans (h.elemz s hs) hm
  ·exact Nat.le_trans (h.attrz s hs) hm
  ·exact Nat.le_trans (h.schemez s hs) hm
  ·exact Nat.le_trans (h.classez s hs) hm
  ·exact Nat.le_trans (h.propz s hs) hm⟩
theorem Small.up {p : Pol} {n m : Nat} (h : Small p n m) : Small p (n + 1) m :=
 ⟨Nat.le_succ_of_le h.elems, Nat.le_succ_of_le h.attrs, Nat.le_succ_of_le h.schemes, Nat.le_succ_of_le h.classes, Nat.le_succ_of_le h.props, h.elemz, h.attrz, h.schemez, h.classez, h.propz⟩
theorem mem_snoc {l : List Str} {w : Str} {m : Nat} (h : ∀ s ∈ l, s.size ≤ m) (hw : w.size ≤ m) : ∀ s ∈ l ++ [w], s.size ≤ m := fun s hs => by
 rcases List.mem_append.1 hs with h2 | h2
 ·exact h s h2
 ·rw [List.mem_singleton.1 h2]; exact hw
theorem len_snoc {l : List Str} {w : Str} {n : Nat} (h : l.length ≤ n) : (l ++ [w]).length ≤ n + 1 := by simp; omega
theorem getD_size {ws : List Str} {m : Nat} (h : ∀ s ∈ ws, s.size ≤ m) (i : Nat) : (ws.getD i ByteArray.empty).size ≤ m := by
 rw [List.getD_eq_getElem?_getD]
 by_cases hi : i < ws.length
 ·rw [List.getElem?_eq_getElem hi]; exact h _ (List.getElem_mem hi)
 ·rw [List.getElem?_eq_none (by omega)]; exact Nat.zero_le _
theorem Small.taken {p : Pol} {n m : Nat} (h : Small p n m) {ws : List Str} (hw : ∀ s ∈ ws, s.size ≤ m) : Small (takenP p ws) (n + 1) m := by
 have k := h.up
 have w1 := getD_size hw 1
 unfold takenP
 dsimp only
 split
 ·exact ⟨k.elems, k.attrs, k.schemes, k.classes, k.props, k.elemz, k.attrz, k.schemez, k.classez, k.propz⟩
 split
 ·exact k
 split
 ·exact ⟨k.elems, k.attrs, k.schemes, k.classes, k.props, k.elemz, k.attrz, k.schemez, k.classez, k.propz⟩
 split
 ·exact ⟨len_snoc h.elems, k.attrs, k.schemes, k.classes, k.props, mem_snoc k.elemz w1, k.attrz, k.schemez, k.classez, k.propz⟩
 split
 ·exact ⟨k.elems, len_snoc h.attrs, k.schemes, k.classes, k.props, k.elemz, mem_snoc k.attrz w1, k.schemez, k.classez, k.propz⟩
 split
 ·exact ⟨k.elems, k.attrs, len_snoc h.schemes, k.classes, k.props, k.elemz, k.attrz, mem_snoc k.schemez w1, k.classez, k.propz⟩
 split
 ·exact ⟨k.elems, k.attrs, k.schemes, len_snoc h.classes, k.props, k.elemz, k.attrz, k.schemez, mem_snoc k.classez w1, k.propz⟩
 split
 ·exact ⟨k.elems, k.attrs, k.schemes, k.classes, len_snoc h.props, k.elemz, k.attrz, k.schemez, k.classez, mem_snoc k.propz w1⟩
 ·exact k
/-- What the fold makes stays small. -/
theorem fold_small {m : Nat} : ∀ (ls : List Str) (p : Pol) (n : Nat), (∀ l ∈ ls, l.size ≤ m) → Small p n m → Small (ls.foldl (fun p l => takenP p (splitS l spS)) p) (n + ls.length) m
 | [], p, n, _, h => h
 | l :: ls, p, n, hl, h => by
  have := fold_small ls (takenP p (splitS l spS)) (n + 1) (fun x hx => hl x (by simp [hx])) (h.taken fun x hx => Nat.le_trans (splitS_size hx) (hl l (by simp)))
  rw [List.length_cons, show n + (ls.length + 1) = n + 1 + ls.length by omega]
  exact this
theorem pol0_small (n m : Nat) : Small pol0 n m := ⟨Nat.zero_le _, Nat.zero_le _, Nat.zero_le _, Nat.zero_le _, Nat.zero_le _, (fun _ h => by cases h), (fun _ h => by cases h), (fun _ h => by cases h), (fun _ h => by cases h), (fun _ h => by cases h)⟩
theorem readP_small (s : Str) : Small (readP s) (s.size + 1) s.size := by
 have := fold_small (m := s.size) (splitS s nlS) pol0 0 (fun l hl => splitS_size hl) (pol0_small _ _)
 have h2 := splitS_len_le (s := s) (sep := nlS) (by decide)
 exact ⟨by have := this.elems; unfold readP; omega, by have := this.attrs; unfold readP; omega, by have := this.schemes; unfold readP; omega, by have := this.classes; unfold readP; omega, by have := this.props; unfold readP; omega, this.elemz, this.attrz, this.schemez, this.classez, this.propz⟩
def polX (p : Pol) (x1 x2 x3 x4 x5 : AVal) : List AVal := [.v (.int .i64 p.epoch), x1, x2, x3, x4, x5, .v (.int .i64 p.depth), .v (.int .i64 p.nodes), .v (.int .i64 p.bytes)]
theorem FZ.polX {H H' : AHeap} {p : Pol} {x1 x2 x3 x4 x5 : AVal} (h1 : FZ H H' x1 (.sl false 1 (strRows p.elems))) (h2 : FZ H H' x2 (.sl false 1 (strRows p.attrs))) (h3 : FZ H H' x3 (.sl false 1 (strRows p.schemes))) (h4 : FZ H H' x4 (.sl false 1 (strRows p.classes))) (h5 : FZ H H' x5 (.sl false 1 (strRows p.props))) :
  ∀ j (hj : j < (polX p x1 x2 x3 x4 x5).length) (hj' : j < (polCells p).length), FZ H H' (polX p x1 x2 x3 x4 x5)[j] (polCells p)[j] := fun j hj hj' => by
 rcases j with _ | _ | _ | _ | _ | _ | _ | _ | _ | j
 ·exact .refl _
 ·exact h1
 ·exact h2
 ·exact h3
 ·exact h4
 ·exact h5
 ·exact .refl _
 ·exact .refl _
 ·exact .refl _
 ·simp [M.polX] at hj; omega
theorem polCells_one (p : Pol) : ∀ j (hj : j < (polCells p).length), (polCells p)[j].one = true := fun j hj => by
 rcases j with _ | _ | _ | _ | _ | _ | _ | _ | _ | j
 ·rfl
 ·rfl
 ·rfl
 ·rfl
 ·rfl
 ·rfl
 ·rfl
 ·rfl
 ·rfl
 ·simp [polCells] at hj; omega
theorem FZ.tup2 {H H' : AHeap} {x y x' y' : AVal} (h1 : FZ H H' x x') (h2 : FZ H H' y y') : FZ H H' (.tup [x, y]) (.tup [x', y']) := .tup rfl fun j hj hj' => by
 rcases j with _ | _ | j
 ·exact h1
 ·exact h2
 ·simp at hj; omega
theorem RowO.fz {H H' : AHeap} {E : Nat} {x : AVal} {l : List Str} (h : RowO H E 1 x (strRows l)) (hd : ∀ b, blkOf x = some b → H' b = none) : FZ H H' x (.sl false 1 (strRows l)) := h.row.fz (strGood l) hd
abbrev zeroCells : List AVal := [.v (.int .i64 0), .v (.slice none 0 0), .v (.slice none 0 0), .v (.slice none 0 0), .v (.slice none 0 0), .v (.slice none 0 0), .v (.int .i64 0), .v (.int .i64 0), .v (.int .i64 0)]
theorem FZ.zero {H H' : AHeap} : FZ H H' (.agg zeroCells) (.agg (polCells pol0)) := .agg rfl (polCells_one _) (FZ.polX (p := pol0) (.nil 1) (.nil 1) (.nil 1) (.nil 1) (.nil 1))
theorem RowO.gone {H : AHeap} {E sz r T : Nat} {x : AVal} {rows : List (List AVal)} {cs : List AVal} {o : AObj} (h : RowO H E sz x rows) (hr : H r = some (.cells T cs)) : ∀ b, blkOf x = some b → (AHeap.none.put r o) b = none := fun b hb => by
 have := h.blk hb
 rw [hp_ne]; rfl
 intro e; rw [e, hr] at this; cases this
def c_Read : AFn := ⟨1, 34, [34, 3],
 .seq (.ops [oe 2 (.alloc 36 [(.int .i64 0), (.slice none 0 0), (.slice none 0 0), (.slice none 0 0), (.slice none 0 0), (.slice none 0 0), (.int .i64 0), (.int .i64 0), (.int .i64 0)]),
   oq 3 (.mv (.const (.int .i64 0)))])
 (.seq (.ops [oe 4 (.alloc 36 [(.int .i64 0), (.slice none 0 0), (.slice none 0 0), (.slice none 0 0), (.slice none 0 0), (.slice none 0 0), (.int .i64 0), (.int .i64 0), (.int .i64 0)])])
 (.seq (.seq (.ops [oq 9 (.mv (.tmp 0)),
   oe 10 (.call 67 [(.tmp 9), (.const (.string ⟨#[10]⟩))]),
   oq 11 (.len false (.tmp 10)),
   oq 12 (.mv (.const (.int .i64 0)))])
 (.block 0 (.loop (.seq (.ops [oq 13 (.bin .lss .num (.tmp 12) (.tmp 11))])
   (.seq (.cond (.tmp 13)
    (.skip)
    (.exit 0))
   (.seq (.block 1 (.seq (.ops [oq 14 (.ixa 1 (.tmp 10) (.tmp 12)),
      oq 15 (.ld false 1 (.tmp 14)),
      oq 6 (.mv (.tmp 15))])
    (.ops [oq 16 (.mv (.tmp 6)),
      oe 17 (.call 67 [(.tmp 16), (.const (.string ⟨#[32]⟩))]),
      oe 18 (.call 68 [(.tmp 4), (.tmp 17)])])))
   (.ops [oq 19 (.bin .add .num (.tmp 12) (.const (.int .i64 1))),
     oq 12 (.mv (.tmp 19))])))))))
 (.seq (.seq (.ops [oq 21 (.ld true 9 (.tmp 4)),
   oe 22 (.call 30 [(.tmp 21)]),
   oq 20 (.mv (.tmp 22)),
   oq 23 (.ext (.tmp 20) 0),
   oq 24 (.ext (.tmp 20) 1),
   oq 7 (.mv (.tmp 23)),
   oq 8 (.mv (.tmp 24))])
 (.seq (.ops [oq 25 (.mv (.tmp 8)),
   oq 26 (.bin .neq .num (.tmp 25) (.const (.int .i64 0))),
   oq 27 (.mv (.tmp 26)),
   og 28 27 false (.mv (.tmp 7)),
   og 29 27 false (.mv (.tmp 0)),
   og 30 27 false (.bin .neq .num (.tmp 28) (.tmp 29)),
   oq 31 (.pick (.tmp 27) (.const (.bool true)) (.tmp 30))])
 (.cond (.tmp 31)
  (.seq (.ops [oq 32 (.bld [(.int .i64 0), (.slice none 0 0), (.slice none 0 0), (.slice none 0 0), (.slice none 0 0), (.slice none 0 0), (.int .i64 0), (.int .i64 0), (.int .i64 0)] []),
    on (.st 9 (.tmp 2) (.tmp 32)),
    oq 3 (.mv (.const (.int .i64 2)))])
  (.ret))
  (.skip))))
 (.seq (.ops [oq 33 (.ld true 9 (.tmp 4)),
   on (.st 9 (.tmp 2) (.tmp 33)),
   oq 3 (.mv (.const (.int .i64 0)))])
 (.ret))))), [(34, (2, (true, 9)))]⟩
theorem k_Read : compF Tryz.prog 34 = some c_Read := by kernel_rfl
set_option maxHeartbeats 8000000 in
theorem read_ok {W : World} (L : Laid W) (E : Errs W) (s : Str) (hs : s.size ≤ 19000) : ACalls Tryz.prog W 34 [.v (.string s)] AHeap.none fun v _ => v = readR s := by
 refine fn_run follows k_Read rfl ?_
 simp only [oq, og, oe, oh, on, c_Read, aretC_nil, List.zipIdx_cons, List.zipIdx_nil, List.map_cons, List.map_nil, Nat.zero_add]
 (try simp +decide -implicitDefEqProofs only [go_sem])
 rw [stk_alloc]
 intro r hr
 (try simp +decide -implicitDefEqProofs only [go_sem])
 rw [stk_alloc]
 intro g hg
 have ngr := new_ne (hp_self _ _ _) hg
 (try simp +decide -implicitDefEqProofs only [go_sem])
 refine stk_pure (split_ok L s nlS (by omega) (by decide)) fun v hv => ?_
 subst hv
 have hlen := splitS_len_le (s := s) (sep := nlS) (by decide)
 have hsz : ∀ l ∈ splitS s nlS, l.size ≤ s.size := fun l hl => splitS_size hl
 have hread : readP s = (splitS s nlS).foldl (fun p l => takenP p (splitS l spS)) pol0 := rfl
 generalize splitS s nlS = ls at hlen hsz hread
 (try simp +decide -implicitDefEqProofs only [go_sem])
 refine stk_up (α := AHeap) ls.length (fun i H => ⟨[(12, .v (.int .i64 i)), (11, .v (.int .i64 ls.length)), (10, .sl true 1 (strRows ls)), (4, .v (.pointer (some ⟨g, 0, none⟩))), (2, .v (.pointer (some ⟨r, 0, none⟩))), (0, .v (.string s))], H⟩) (fun i H => (∃ x1 x2 x3 x4 x5, PolH H g ((ls.take i).foldl (fun p l => takenP p (splitS l spS)) pol0) x1 x2 x3 x4 x5) ∧ H r = some (.cells 36 zeroCells)) _ (Weak.list _ (Sub.refl _) (by (try simp +decide -implicitDefEqProofs only [go_sem]))) ?_ ?_
 ·refine ⟨⟨_, _, _, _, _, hp_self _ _ _, .nil, .nil, .nil, .nil, .nil, ?_, ?_, ?_, ?_, ?_, ?_, ?_, ?_, ?_, ?_⟩, (hp_ne _ _ (Ne.symm ngr)).trans (hp_self _ _ _)⟩
  all_goals (intro c hc; cases hc)
 clear hr hg
 rintro i H hi ⟨⟨x1, x2, x3, x4, x5, hP⟩, hr⟩
 have hsm := fold_small (m := s.size) (ls.take i) pol0 0 (fun l hl => hsz l (List.mem_of_mem_take hl)) (pol0_small _ _)
 rw [List.length_take, Nat.zero_add] at hsm
 by_cases hlt : i < ls.length
 ·have g1 : (i : Int) < (ls.length : Int) := by omega
  have hw := wrap_in (n := (i : Int) + 1) (by omega) (by omega)
  have hgt := strRows_get hlt
  have hget : ls.getD i ByteArray.empty = ls[i] := by simp [hlt]
  have hlz := hsz (ls.getD i ByteArray.empty) (by rw [hget]; exact List.getElem_mem _)
  have hfold : (ls.take (i + 1)).foldl (fun p l => takenP p (splitS l spS)) pol0 = takenP ((ls.take i).foldl (fun p l => takenP p (splitS l spS)) pol0) (splitS (ls.getD i ByteArray.empty) spS) := by
   rw [List.take_succ_eq_append_getElem hlt, List.foldl_append, hget]; rfl
  rw [hfold]
  generalize (ls.take i).foldl (fun p l => takenP p (splitS l spS)) pol0 = p at hP hsm ⊢
  generalize ls.getD i ByteArray.empty = l at hgt hlz ⊢
  (try simp +decide -implicitDefEqProofs only [go_sem, g1, hlt, hgt])
  refine stk_pure (split_ok L l spS (by omega) (by decide)) fun v hv => ?_
  subst hv
  have hw1 := splitS_len_le (s := l) (sep := spS) (by decide)
  have hw2 : ∀ x ∈ splitS l spS, x.size ≤ 1000000000 := fun x hx => by have := splitS_size hx; omega
  generalize splitS l spS = ws at hw1 hw2 ⊢
  (try simp +decide -implicitDefEqProofs only [go_sem])
  have b1 := hsm.elems
  have b2 := hsm.attrs
  have b3 := hsm.schemes
  have b4 := hsm.classes
  have b5 := hsm.props
  refine stk_call (taken_ok (f := true) E ws hP (by omega) hw2 ⟨by omega, by omega, by omega, by omega, by omega⟩) fun v H' hv => ?_
  obtain ⟨⟨y1, y2, y3, y4, y5, hP'⟩, hK⟩ := hv
  have hr' := hK r _ _ hr (Ne.symm ngr)
  (try simp +decide -implicitDefEqProofs only [go_sem, hw])
  exact ⟨H', Weak.list _ (Sub.refl _) (by (try simp +decide -implicitDefEqProofs only [go_sem])), ⟨y1, y2, y3, y4, y5, hP'⟩, hr'⟩
 ·have g1 : ¬ (i : Int) < (ls.length : Int) := by omega
  rw [List.take_of_length_le (by omega), ← hread] at hP
  have F := (readP_small s).fits (by omega) (by omega)
  unfold readR
  generalize readP s = p at hP F ⊢
  have hhere := hP.here
  (try simp +decide -implicitDefEqProofs only [go_sem, g1, hhere, lay, oneOr, List.take_succ_cons, List.take_zero, List.drop_succ_cons, List.drop_zero, List.nil_append, List.cons_append, Option.getD_some, Nat.reduceAdd, Nat.reduceLeDiff, List.append_nil, and_self, List.all_cons, List.all_nil])
  refine stk_pureW ⟨[(21, .agg (polCells p)), (4, .pl (polCells p)), (2, .v (.pointer (some ⟨r, 0, none⟩))), (0, .v (.string s))], AHeap.none.put r (.cells 36 zeroCells)⟩ (Weak.list _ (fun b o hb => ?_) ?_) (text_ok L p F) fun v hv => ?_
  ·simp only [AHeap.put] at hb
   split at hb
   ·rename_i e; subst e; rw [hr]; exact hb
   ·cases hb
  ·have q := FZ.polX (H := H) (H' := AHeap.none.put r (.cells 36 zeroCells)) (p := p) (hP.r1.fz (hP.r1.gone hr)) (hP.r2.fz (hP.r2.gone hr)) (hP.r3.fz (hP.r3.gone hr)) (hP.r4.fz (hP.r4.gone hr)) (hP.r5.fz (hP.r5.gone hr))
   (try simp +decide -implicitDefEqProofs only [go_sem])
   exact ⟨.agg rfl (polCells_one p) q, .cells hhere (by rw [hp_ne _ _ ngr]; rfl) rfl q⟩
  subst hv
  unfold textR
  cases hrt : rightP p
  ·(try simp +decide -implicitDefEqProofs only [go_sem, lay, oneOr, List.take_succ_cons, List.take_zero, List.drop_succ_cons, List.drop_zero, List.nil_append, List.cons_append, Option.getD_some, Nat.reduceAdd, Nat.reduceLeDiff, List.append_nil, and_self, List.all_cons, List.all_nil])
   refine aretC_one (by (try simp +decide -implicitDefEqProofs only [go_sem, hp_self, lay, oneOr, List.take_succ_cons, List.take_zero, List.drop_succ_cons, List.drop_zero, List.nil_append, List.cons_append, Option.getD_some, Nat.reduceAdd, Nat.reduceLeDiff, List.append_nil, and_self, List.all_cons, List.all_nil])) ?_
   (try simp +decide -implicitDefEqProofs only [go_sem, hp_self, lay, oneOr, List.take_succ_cons, List.take_zero, List.drop_succ_cons, List.drop_zero, List.nil_append, List.cons_append, Option.getD_some, Nat.reduceAdd, Nat.reduceLeDiff, List.append_nil, and_self, List.all_cons, List.all_nil])
   exact ⟨.inr rfl, AHeap.none, _, Sub.none _, .tup2 .zero (.refl _), by rw [if_neg (by simp)]; rfl⟩
  by_cases he : textP p = s
  ·have h1 : decide (textP p ≠ s) = false := by simp [he]
   (try simp +decide -implicitDefEqProofs only [go_sem, h1, polCells, lay, oneOr, List.take_succ_cons, List.take_zero, List.drop_succ_cons, List.drop_zero, List.nil_append, List.cons_append, Option.getD_some, Nat.reduceAdd, Nat.reduceLeDiff, List.append_nil, and_self, List.all_cons, List.all_nil])
   refine aretC_one (by (try simp +decide -implicitDefEqProofs only [go_sem, hp_self, lay, oneOr, List.take_succ_cons, List.take_zero, List.drop_succ_cons, List.drop_zero, List.nil_append, List.cons_append, Option.getD_some, Nat.reduceAdd, Nat.reduceLeDiff, List.append_nil, and_self, List.all_cons, List.all_nil])) ?_
   (try simp +decide -implicitDefEqProofs only [go_sem, hp_self, lay, oneOr, List.take_succ_cons, List.take_zero, List.drop_succ_cons, List.drop_zero, List.nil_append, List.cons_append, Option.getD_some, Nat.reduceAdd, Nat.reduceLeDiff, List.append_nil, and_self, List.all_cons, List.all_nil])
   exact ⟨.inr rfl, AHeap.none, _, Sub.none _, .refl _, by rw [if_pos he]; rfl⟩
  ·have h1 : decide (textP p ≠ s) = true := by simp [he]
   (try simp +decide -implicitDefEqProofs only [go_sem, h1, polCells, lay, oneOr, List.take_succ_cons, List.take_zero, List.drop_succ_cons, List.drop_zero, List.nil_append, List.cons_append, Option.getD_some, Nat.reduceAdd, Nat.reduceLeDiff, List.append_nil, and_self, List.all_cons, List.all_nil])
   refine aretC_one (by (try simp +decide -implicitDefEqProofs only [go_sem, hp_self, lay, oneOr, List.take_succ_cons, List.take_zero, List.drop_succ_cons, List.drop_zero, List.nil_append, List.cons_append, Option.getD_some, Nat.reduceAdd, Nat.reduceLeDiff, List.append_nil, and_self, List.all_cons, List.all_nil])) ?_
   (try simp +decide -implicitDefEqProofs only [go_sem, hp_self, lay, oneOr, List.take_succ_cons, List.take_zero, List.drop_succ_cons, List.drop_zero, List.nil_append, List.cons_append, Option.getD_some, Nat.reduceAdd, Nat.reduceLeDiff, List.append_nil, and_self, List.all_cons, List.all_nil])
   exact ⟨.inr rfl, AHeap.none, _, Sub.none _, .tup2 .zero (.refl _), by rw [if_neg he]; rfl⟩
end Go.Proofs.YtfaodacmdlnabaaGreatDoor.M
