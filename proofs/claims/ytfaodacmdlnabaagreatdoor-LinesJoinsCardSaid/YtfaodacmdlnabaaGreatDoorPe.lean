/-
 What a policy lets, and whether it is stricter than another: walked.
-/
import Derived.Test.YtfaodacmdlnabaaGreatDoorPd
namespace Go.Proofs.YtfaodacmdlnabaaGreatDoor.M
open Go.RowKit
set_option linter.unusedVariables false
set_option linter.unusedSimpArgs false
def c_Elem : AFn := ⟨2, 9, [4],
 .seq (.ops [oe 2 (.box 36 (.tmp 0)),
   oq 4 (.mv (.const (.bool false)))])
 (.seq (.ops [oq 5 (.fad 1 1 (.tmp 2)),
   oq 6 (.ld false 1 (.tmp 5)),
   oq 7 (.mv (.tmp 1)),
   oe 8 (.call 97 [(.tmp 6), (.tmp 7)]),
   oq 4 (.mv (.tmp 8))])
 (.ret)), []⟩
theorem k_Elem : compF Tryz.prog 252 = some c_Elem := by kernel_rfl
theorem elem_ok {W : World} (p : Pol) (F : Fits p) (x : Str) : ACalls Tryz.prog W 252 [.agg (polCells p), .v (.string x)] AHeap.none fun v _ => v = .v (.bool (decide (x ∈ p.elems))) := by
 have F1 := F.elems
 refine fn_run follows k_Elem rfl ?_
 simp only [oq, og, oe, oh, on, c_Elem, aretC_nil, List.zipIdx_cons, List.zipIdx_nil, List.map_cons, List.map_nil, Nat.zero_add]
 (try simp +decide -implicitDefEqProofs only [go_sem])
 rw [stk_box]
 refine ⟨by rfl, fun b1 h1 => ?_⟩
 (try simp +decide -implicitDefEqProofs only [go_sem, polCells, lay, oneOr, List.take_succ_cons, List.take_zero, List.drop_succ_cons, List.drop_zero, List.nil_append, List.cons_append, Option.getD_some, Nat.reduceAdd, Nat.reduceLeDiff, List.append_nil, and_self, List.all_cons, List.all_nil])
 refine stk_pure (contains_ok p.elems x (by omega)) fun v hv => ?_
 subst hv
 (try simp +decide -implicitDefEqProofs only [go_sem])
 refine aret_pure (.inr rfl) ?_; simp +decide only [retOf, tget, if_true, if_false, ↓reduceIte, List.map_cons, List.map_nil]
def letsP (p : Pol) (e a : Str) : Bool := decide (e ∈ p.elems) && (decide ((⟨#[42, 46]⟩ ++ a : Str) ∈ p.attrs) || decide (((e ++ ⟨#[46]⟩ : Str) ++ a : Str) ∈ p.attrs))
def c_Attr : AFn := ⟨3, 26, [6],
 .seq (.ops [oe 3 (.box 36 (.tmp 0)),
   oq 6 (.mv (.const (.bool false)))])
 (.seq (.ops [oq 7 (.ld true 9 (.tmp 3)),
   oq 8 (.mv (.tmp 1)),
   oe 9 (.call 252 [(.tmp 7), (.tmp 8)]),
   oq 10 (.mv (.tmp 9)),
   og 11 10 true (.fad 2 1 (.tmp 3)),
   og 12 10 true (.ld false 1 (.tmp 11)),
   og 13 10 true (.mv (.tmp 2)),
   og 14 10 true (.bin .add .num (.const (.string ⟨#[42, 46]⟩)) (.tmp 13)),
   oh 15 10 true (.call 97 [(.tmp 12), (.tmp 14)]),
   og 16 10 true (.mv (.tmp 15)),
   og 17 16 false (.fad 2 1 (.tmp 3)),
   og 18 16 false (.ld false 1 (.tmp 17)),
   og 19 16 false (.mv (.tmp 1)),
   og 20 16 false (.bin .add .num (.tmp 19) (.const (.string ⟨#[46]⟩))),
   og 21 16 false (.mv (.tmp 2)),
   og 22 16 false (.bin .add .num (.tmp 20) (.tmp 21)),
   oh 23 16 false (.call 97 [(.tmp 18), (.tmp 22)]),
   og 24 10 true (.pick (.tmp 16) (.const (.bool true)) (.tmp 23)),
   oq 25 (.pick (.tmp 10) (.tmp 24) (.const (.bool false))),
   oq 6 (.mv (.tmp 25))])
 (.ret)), []⟩
theorem k_Attr : compF Tryz.prog 278 = some c_Attr := by kernel_rfl
set_option maxHeartbeats 2000000 in
theorem lets_ok {W : World} (p : Pol) (F : Fits p) (e a : Str) (he : e.size ≤ 1000000) (ha : a.size ≤ 1000000) : ACalls Tryz.prog W 278 [.agg (polCells p), .v (.string e), .v (.string a)] AHeap.none fun v _ => v = .v (.bool (letsP p e a)) := by
 have F2 := F.attrs
 have hp0 : polCells p = [.v (.int .i64 p.epoch), .sl false 1 (strRows p.elems), .sl false 1 (strRows p.attrs), .sl false 1 (strRows p.schemes), .sl false 1 (strRows p.classes), .sl false 1 (strRows p.props), .v (.int .i64 p.depth), .v (.int .i64 p.nodes), .v (.int .i64 p.bytes)] := rfl
 refine fn_run follows k_Attr rfl ?_
 simp only [oq, og, oe, oh, on, c_Attr, aretC_nil, List.zipIdx_cons, List.zipIdx_nil, List.map_cons, List.map_nil, Nat.zero_add]
 (try simp +decide -implicitDefEqProofs only [go_sem])
 rw [stk_box]
 refine ⟨by rfl, fun b1 h1 => ?_⟩
 (try simp +decide -implicitDefEqProofs only [go_sem, polCells, lay, oneOr, List.take_succ_cons, List.take_zero, List.drop_succ_cons, List.drop_zero, List.nil_append, List.cons_append, Option.getD_some, Nat.reduceAdd, Nat.reduceLeDiff, List.append_nil, and_self, List.all_cons, List.all_nil])
 refine stk_pure (elem_ok p F e) fun v hv => ?_
 subst hv
 unfold letsP
 cases hm : decide (e ∈ p.elems)
 ·(try simp +decide -implicitDefEqProofs only [go_sem])
  refine aret_pure (.inr rfl) ?_; simp +decide only [retOf, tget, if_true, if_false, ↓reduceIte, List.map_cons, List.map_nil]
  try rfl
 have s1 : (⟨#[42, 46]⟩ : ByteArray).size = 2 := rfl
 have s2 : (⟨#[46]⟩ : ByteArray).size = 1 := rfl
 have s3 : 2 + a.size ≤ 9223372036854775807 := by omega
 have s4 : e.size + 1 ≤ 9223372036854775807 := by omega
 have s5 : (e ++ ⟨#[46]⟩ : Str).size = e.size + 1 := by rw [ByteArray.size_append, s2]
 have s6 : e.size + 1 + a.size ≤ 9223372036854775807 := by omega
 (try simp +decide -implicitDefEqProofs only [go_sem, s1, s3, lay, oneOr, List.take_succ_cons, List.take_zero, List.drop_succ_cons, List.drop_zero, List.nil_append, List.cons_append, Option.getD_some, Nat.reduceAdd, Nat.reduceLeDiff, List.append_nil, and_self, List.all_cons, List.all_nil])
 refine stk_pure (contains_ok p.attrs _ (by omega)) fun v hv => ?_
 subst hv
 cases hm2 : decide ((⟨#[42, 46]⟩ ++ a : Str) ∈ p.attrs)
 ·have hm3 : decide ((({ data := #[42, 46] } : ByteArray) ++ a) ∈ p.attrs) = false := hm2
  (try simp +decide -implicitDefEqProofs only [go_sem, s2, s4, s5, s6, hm3, lay, oneOr, List.take_succ_cons, List.take_zero, List.drop_succ_cons, List.drop_zero, List.nil_append, List.cons_append, Option.getD_some, Nat.reduceAdd, Nat.reduceLeDiff, List.append_nil, and_self, List.all_cons, List.all_nil])
  refine stk_pure (contains_ok p.attrs _ (by omega)) fun v hv => ?_
  subst hv
  (try simp +decide -implicitDefEqProofs only [go_sem])
  refine aret_pure (.inr rfl) ?_; simp +decide only [retOf, tget, if_true, if_false, ↓reduceIte, List.map_cons, List.map_nil]
  try rfl
 ·have hm3 : decide ((({ data := #[42, 46] } : ByteArray) ++ a) ∈ p.attrs) = true := hm2
  (try simp +decide -implicitDefEqProofs only [go_sem, hm3])
  refine aret_pure (.inr rfl) ?_; simp +decide only [retOf, tget, if_true, if_false, ↓reduceIte, List.map_cons, List.map_nil]
  try rfl
def allIn (a b : List Str) : Bool := a.all fun s => decide (s ∈ b)
def c_all : AFn := ⟨2, 18, [4],
 .seq (.ops [oq 4 (.mv (.const (.bool false)))])
 (.seq (.seq (.ops [oq 7 (.mv (.tmp 0)),
   oq 8 (.len false (.tmp 7)),
   oq 9 (.mv (.const (.int .i64 0)))])
 (.block 0 (.loop (.seq (.ops [oq 10 (.bin .lss .num (.tmp 9) (.tmp 8))])
   (.seq (.cond (.tmp 10)
    (.skip)
    (.exit 0))
   (.seq (.block 1 (.seq (.ops [oq 11 (.ixa 1 (.tmp 7) (.tmp 9)),
      oq 12 (.ld false 1 (.tmp 11)),
      oq 6 (.mv (.tmp 12))])
    (.seq (.ops [oq 13 (.mv (.tmp 1)),
      oq 14 (.mv (.tmp 6)),
      oe 15 (.call 97 [(.tmp 13), (.tmp 14)]),
      oq 16 (.un .not (.tmp 15))])
    (.cond (.tmp 16)
     (.seq (.ops [oq 4 (.mv (.const (.bool false)))])
     (.ret))
     (.skip)))))
   (.ops [oq 17 (.bin .add .num (.tmp 9) (.const (.int .i64 1))),
     oq 9 (.mv (.tmp 17))])))))))
 (.seq (.ops [oq 4 (.mv (.const (.bool true)))])
 (.ret))), []⟩
theorem k_all : compF Tryz.prog 206 = some c_all := by kernel_rfl
set_option maxHeartbeats 2000000 in
theorem all_ok {W : World} {f g : Bool} (a b : List Str) (ha : a.length ≤ 1000000) (hb : b.length ≤ 1000000) : ACalls Tryz.prog W 206 [.sl f 1 (strRows a), .sl g 1 (strRows b)] AHeap.none fun v _ => v = .v (.bool (allIn a b)) := by
 refine fn_run follows k_all rfl ?_
 simp only [oq, og, oe, oh, on, c_all, aretC_nil, List.zipIdx_cons, List.zipIdx_nil, List.map_cons, List.map_nil, Nat.zero_add]
 (try simp +decide -implicitDefEqProofs only [go_sem])
 refine stk_up (α := Unit) a.length (fun i _ => ⟨[(9, .v (.int .i64 i)), (8, .v (.int .i64 a.length)), (7, .sl f 1 (strRows a)), (1, .sl g 1 (strRows b))], AHeap.none⟩) (fun i _ => ∀ j, j < i → a.getD j ByteArray.empty ∈ b) () (Weak.list _ (Sub.refl _) (by (try simp +decide -implicitDefEqProofs only [go_sem]))) (fun j h => by omega) ?_
 rintro i ⟨⟩ hi hJ
 by_cases hlt : i < a.length
 ·have g1 : (i : Int) < (a.length : Int) := by omega
  have hw := wrap_in (n := i + 1) (by omega) (by omega)
  have hg := strRows_get hlt
  (try simp +decide -implicitDefEqProofs only [go_sem, g1, hlt, hg])
  refine stk_pure (contains_ok b _ (by omega)) fun v hv => ?_
  subst hv
  by_cases hm : a.getD i ByteArray.empty ∈ b
  ·rw [decide_eq_true hm]
   (try simp +decide -implicitDefEqProofs only [go_sem, hw])
   refine ⟨(), Weak.list _ (Sub.refl _) (by (try simp +decide -implicitDefEqProofs only [go_sem])), fun j hj => ?_⟩
   by_cases e : j = i
   ·rw [e]; exact hm
   ·exact hJ j (by omega)
  ·rw [decide_eq_false hm]
   (try simp +decide -implicitDefEqProofs only [go_sem])
   refine aret_pure (.inr rfl) ?_; simp +decide only [retOf, tget, if_true, if_false, ↓reduceIte, List.map_cons, List.map_nil]
   have : allIn a b = false := by
    unfold allIn
    rw [List.all_eq_false]
    exact ⟨a[i], List.getElem_mem hlt, by have e : a.getD i ByteArray.empty = a[i] := by simp [hlt]
                                          rw [← e]; simpa using hm⟩
   rw [this]
 ·have g1 : ¬ (i : Int) < (a.length : Int) := by omega
  obtain rfl : i = a.length := by omega
  (try simp +decide -implicitDefEqProofs only [go_sem, g1])
  refine aret_pure (.inr rfl) ?_; simp +decide only [retOf, tget, if_true, if_false, ↓reduceIte, List.map_cons, List.map_nil]
  have : allIn a b = true := by
   unfold allIn
   rw [List.all_eq_true]
   intro x hx
   obtain ⟨j, hj, rfl⟩ := List.getElem_of_mem hx
   have := hJ j hj
   simpa [hj] using this
  rw [this]
def ixS (s : Str) : Int := Lib.indexByte s.data.toList (46 : Int).toNat.toUInt8
theorem ixS_le (s : Str) (h : 0 ≤ ixS s) : ixS s < s.size := by
 obtain ⟨o, ho⟩ : ∃ o : Nat, ixS s = o := ⟨(ixS s).toNat, by omega⟩
 have h2 := (Lib.indexByte_some (show Lib.indexByte s.data.toList (46 : Int).toNat.toUInt8 = (o : Int) from ho)).1
 obtain ⟨h3, _⟩ := List.getElem?_eq_some_iff.1 h2
 have h4 : s.data.toList.length = s.size := by rw [Array.length_toList]; rfl
 omega
def anyS (s : Str) : Str := if 0 ≤ ixS s then (⟨#[42]⟩ ++ cutS s (ixS s) s.size : Str) else ⟨#[42]⟩
def attrIn (q : Pol) (s : Str) : Bool := decide (s ∈ q.attrs) || decide (anyS s ∈ q.attrs)
def strictP (p q : Pol) : Bool :=
 p.attrs.all (attrIn q) && ((decide (p.depth = min p.depth q.depth) && (decide (p.nodes = min p.nodes q.nodes) && decide (p.bytes = min p.bytes q.bytes))) &&
  (allIn p.elems q.elems && (allIn p.schemes q.schemes && (allIn p.classes q.classes && allIn p.props q.props))))
theorem cutS_size (s : Str) (a b : Int) : (cutS s a b).size ≤ s.size := by
 unfold cutS
 rw [ByteArray.size_extract]; omega
def c_Stricter : AFn := ⟨2, 89, [4],
 .seq (.ops [oe 2 (.box 36 (.tmp 0)),
   oe 3 (.box 36 (.tmp 1)),
   oq 4 (.mv (.const (.bool false)))])
 (.seq (.seq (.ops [oq 10 (.fad 2 1 (.tmp 2)),
   oq 11 (.ld false 1 (.tmp 10)),
   oq 12 (.len false (.tmp 11)),
   oq 13 (.mv (.const (.int .i64 0)))])
 (.block 0 (.loop (.seq (.ops [oq 14 (.bin .lss .num (.tmp 13) (.tmp 12))])
   (.seq (.cond (.tmp 14)
    (.skip)
    (.exit 0))
   (.seq (.block 1 (.seq (.ops [oq 15 (.ixa 1 (.tmp 11) (.tmp 13)),
      oq 16 (.ld false 1 (.tmp 15)),
      oq 6 (.mv (.tmp 16))])
    (.seq (.ops [oq 7 (.mv (.const (.string ⟨#[42]⟩)))])
    (.seq (.seq (.ops [oq 17 (.mv (.tmp 6)),
      oe 18 (.call 205 [(.tmp 17), (.const (.int .u8 46))]),
      oq 8 (.mv (.tmp 18))])
    (.seq (.ops [oq 19 (.mv (.tmp 8)),
      oq 20 (.bin .geq .num (.tmp 19) (.const (.int .i64 0)))])
    (.cond (.tmp 20)
     (.ops [oq 21 (.mv (.tmp 6)),
       oq 22 (.mv (.tmp 8)),
       oq 23 (.ssl (.tmp 21) (some (.tmp 22)) none),
       oq 24 (.bin .add .num (.const (.string ⟨#[42]⟩)) (.tmp 23)),
       oq 7 (.mv (.tmp 24))])
     (.skip))))
    (.seq (.ops [oq 25 (.fad 2 1 (.tmp 3)),
      oq 26 (.ld false 1 (.tmp 25)),
      oq 27 (.mv (.tmp 6)),
      oe 28 (.call 97 [(.tmp 26), (.tmp 27)]),
      oq 29 (.un .not (.tmp 28)),
      oq 30 (.mv (.tmp 29)),
      og 31 30 true (.fad 2 1 (.tmp 3)),
      og 32 30 true (.ld false 1 (.tmp 31)),
      og 33 30 true (.mv (.tmp 7)),
      oh 34 30 true (.call 97 [(.tmp 32), (.tmp 33)]),
      og 35 30 true (.un .not (.tmp 34)),
      oq 36 (.pick (.tmp 30) (.tmp 35) (.const (.bool false)))])
    (.cond (.tmp 36)
     (.seq (.ops [oq 4 (.mv (.const (.bool false)))])
     (.ret))
     (.skip)))))))
   (.ops [oq 37 (.bin .add .num (.tmp 13) (.const (.int .i64 1))),
     oq 13 (.mv (.tmp 37))])))))))
 (.seq (.ops [oq 38 (.fad 6 1 (.tmp 2)),
   oq 39 (.ld false 1 (.tmp 38)),
   oq 40 (.fad 7 1 (.tmp 2)),
   oq 41 (.ld false 1 (.tmp 40)),
   oq 42 (.fad 8 1 (.tmp 2)),
   oq 43 (.ld false 1 (.tmp 42)),
   oq 44 (.bld [(.int .i64 0), (.int .i64 0), (.int .i64 0)] [(0, 1, (.tmp 39)), (1, 1, (.tmp 41)), (2, 1, (.tmp 43))]),
   oe 9 (.alloc 141 [(.int .i64 0), (.int .i64 0), (.int .i64 0)]),
   on (.st 3 (.tmp 9) (.tmp 44))])
 (.seq (.seq (.ops [oq 45 (.ld true 3 (.tmp 9)),
   oq 46 (.fad 0 1 (.tmp 9)),
   oq 47 (.ld false 1 (.tmp 46)),
   oq 48 (.fad 6 1 (.tmp 3)),
   oq 49 (.ld false 1 (.tmp 48)),
   oq 50 (.mm false (.tmp 47) (.tmp 49)),
   oq 51 (.fad 1 1 (.tmp 9)),
   oq 52 (.ld false 1 (.tmp 51)),
   oq 53 (.fad 7 1 (.tmp 3)),
   oq 54 (.ld false 1 (.tmp 53)),
   oq 55 (.mm false (.tmp 52) (.tmp 54)),
   oq 56 (.fad 2 1 (.tmp 9)),
   oq 57 (.ld false 1 (.tmp 56)),
   oq 58 (.fad 8 1 (.tmp 3)),
   oq 59 (.ld false 1 (.tmp 58)),
   oq 60 (.mm false (.tmp 57) (.tmp 59)),
   oq 61 (.bld [(.int .i64 0), (.int .i64 0), (.int .i64 0)] [(0, 1, (.tmp 50)), (1, 1, (.tmp 55)), (2, 1, (.tmp 60))]),
   oq 62 (.bin .neq (.struct [0, 0, 0]) (.tmp 45) (.tmp 61))])
 (.cond (.tmp 62)
  (.seq (.ops [oq 4 (.mv (.const (.bool false)))])
  (.ret))
  (.skip)))
 (.seq (.ops [oq 63 (.fad 1 1 (.tmp 2)),
   oq 64 (.ld false 1 (.tmp 63)),
   oq 65 (.fad 1 1 (.tmp 3)),
   oq 66 (.ld false 1 (.tmp 65)),
   oe 67 (.call 206 [(.tmp 64), (.tmp 66)]),
   oq 68 (.mv (.tmp 67)),
   og 69 68 true (.fad 3 1 (.tmp 2)),
   og 70 68 true (.ld false 1 (.tmp 69)),
   og 71 68 true (.fad 3 1 (.tmp 3)),
   og 72 68 true (.ld false 1 (.tmp 71)),
   oh 73 68 true (.call 206 [(.tmp 70), (.tmp 72)]),
   oq 74 (.pick (.tmp 68) (.tmp 73) (.const (.bool false))),
   oq 75 (.mv (.tmp 74)),
   og 76 75 true (.fad 4 1 (.tmp 2)),
   og 77 75 true (.ld false 1 (.tmp 76)),
   og 78 75 true (.fad 4 1 (.tmp 3)),
   og 79 75 true (.ld false 1 (.tmp 78)),
   oh 80 75 true (.call 206 [(.tmp 77), (.tmp 79)]),
   oq 81 (.pick (.tmp 75) (.tmp 80) (.const (.bool false))),
   oq 82 (.mv (.tmp 81)),
   og 83 82 true (.fad 5 1 (.tmp 2)),
   og 84 82 true (.ld false 1 (.tmp 83)),
   og 85 82 true (.fad 5 1 (.tmp 3)),
   og 86 82 true (.ld false 1 (.tmp 85)),
   oh 87 82 true (.call 206 [(.tmp 84), (.tmp 86)]),
   oq 88 (.pick (.tmp 82) (.tmp 87) (.const (.bool false))),
   oq 4 (.mv (.tmp 88))])
 (.ret))))), []⟩
theorem k_Stricter : compF Tryz.prog 188 = some c_Stricter := by kernel_rfl
set_option maxHeartbeats 4000000 in
theorem strict_ok {W : World} (p q : Pol) (F : Fits p) (G : Fits q) : ACalls Tryz.prog W 188 [.agg (polCells p), .agg (polCells q)] AHeap.none fun v _ => v = .v (.bool (strictP p q)) := by
 have F1 := F.elems
 have F2 := F.attrs
 have F3 := F.schemes
 have F4 := F.classes
 have F5 := F.props
 have G1 := G.elems
 have G2 := G.attrs
 have G3 := G.schemes
 have G4 := G.classes
 have G5 := G.props
 have Fs := fun s (hs : s ∈ p.attrs) => F.all p.attrs (by simp) s hs
 refine fn_run follows k_Stricter rfl ?_
 simp only [oq, og, oe, oh, on, c_Stricter, aretC_nil, List.zipIdx_cons, List.zipIdx_nil, List.map_cons, List.map_nil, Nat.zero_add]
 (try simp +decide -implicitDefEqProofs only [go_sem])
 rw [stk_box]
 refine ⟨by rfl, fun b1 h1 => ?_⟩
 (try simp +decide -implicitDefEqProofs only [go_sem])
 rw [stk_box]
 refine ⟨by rfl, fun b2 h2 => ?_⟩
 have n2 := new_ne (hp_self _ _ _) h2
 have n2' := n2.symm
 (try simp +decide -implicitDefEqProofs only [go_sem, polCells, hp_ne, n2, n2', ne_eq, not_false_eq_true, lay, oneOr, List.take_succ_cons, List.take_zero, List.drop_succ_cons, List.drop_zero, List.nil_append, List.cons_append, Option.getD_some, Nat.reduceAdd, Nat.reduceLeDiff, List.append_nil, and_self, List.all_cons, List.all_nil])
 refine stk_up (α := Unit) p.attrs.length (fun i _ => ⟨[(13, .v (.int .i64 i)), (12, .v (.int .i64 p.attrs.length)), (11, .sl false 1 (strRows p.attrs)), (2, .pl (polCells p)), (3, .pl (polCells q))], AHeap.none⟩) (fun i _ => ∀ j, j < i → attrIn q (p.attrs.getD j ByteArray.empty) = true) () (Weak.list _ (Sub.none _) ?_) (fun j h => by omega) ?_
 ·(try simp +decide -implicitDefEqProofs only [go_sem])
  exact ⟨FZ.cellsR ((hp_ne _ _ n2').trans (hp_self _ _ _)) rfl, FZ.cellsR (hp_self _ _ _) rfl⟩
 rintro i ⟨⟩ hi hJ
 by_cases hlt : i < p.attrs.length
 ·have g1 : (i : Int) < (p.attrs.length : Int) := by omega
  have hw := wrap_in (n := i + 1) (by omega) (by omega)
  have hg := strRows_get hlt
  have hget : p.attrs.getD i ByteArray.empty = p.attrs[i] := by simp [hlt]
  have hsz := Fs (p.attrs.getD i ByteArray.empty) (by rw [hget]; exact List.getElem_mem _)
  have hno : attrIn q (p.attrs.getD i ByteArray.empty) = false → strictP p q = false := fun h => by
   have : p.attrs.all (attrIn q) = false := by
    rw [List.all_eq_false]
    exact ⟨p.attrs[i], List.getElem_mem hlt, by rw [← hget, h]; simp⟩
   unfold strictP
   rw [this]; rfl
  have hyes : attrIn q (p.attrs.getD i ByteArray.empty) = true → ∀ j, j < i + 1 → attrIn q (p.attrs.getD j ByteArray.empty) = true := fun h j hj => by
   by_cases e : j = i
   ·rw [e]; exact h
   ·exact hJ j (by omega)
  have hdef : attrIn q (p.attrs.getD i ByteArray.empty) = (decide (p.attrs.getD i ByteArray.empty ∈ q.attrs) || decide (anyS (p.attrs.getD i ByteArray.empty) ∈ q.attrs)) := rfl
  have hany : anyS (p.attrs.getD i ByteArray.empty) = if 0 ≤ ixS (p.attrs.getD i ByteArray.empty) then (⟨#[42]⟩ ++ cutS (p.attrs.getD i ByteArray.empty) (ixS (p.attrs.getD i ByteArray.empty)) (p.attrs.getD i ByteArray.empty).size : Str) else ⟨#[42]⟩ := rfl
  generalize attrIn q (p.attrs.getD i ByteArray.empty) = ok at hno hyes hdef
  generalize anyS (p.attrs.getD i ByteArray.empty) = any at hdef hany
  (try simp +decide -implicitDefEqProofs only [go_sem, g1, hlt, hg])
  refine stk_pure (indexByte_ok _ _) fun v hv => ?_
  subst hv
  have hixl := ixS_le (p.attrs.getD i ByteArray.empty)
  have hcz := cutS_size (p.attrs.getD i ByteArray.empty) (ixS (p.attrs.getD i ByteArray.empty)) (p.attrs.getD i ByteArray.empty).size
  rw [show Lib.indexByte (p.attrs.getD i ByteArray.empty).data.toList (46 : Int).toNat.toUInt8 = ixS (p.attrs.getD i ByteArray.empty) from rfl]
  generalize p.attrs.getD i ByteArray.empty = s at hdef hany hsz hixl hcz hg ⊢
  generalize ixS s = ix at hany hixl hcz ⊢
  have s1 : (⟨#[42]⟩ : ByteArray).size = 1 := rfl
  have fin : (if 0 ≤ ix then (⟨#[42]⟩ ++ cutS s ix s.size : Str) else ⟨#[42]⟩) = any := hany.symm
  clear hany
  by_cases hix : 0 ≤ ix
  ·rw [if_pos hix] at fin
   have k1 := hixl hix
   have k2 : ix ≤ (s.size : Int) := by omega
   have k3 : 1 + (cutS s ix s.size).size ≤ 9223372036854775807 := by omega
   have k4 : (⟨#[42]⟩ ++ cutS s ix s.size : ByteArray) = any := fin
   have k5 : (s.size : Int) ≤ (s.size : Int) := Int.le_refl _
   (try simp +decide -implicitDefEqProofs only [go_sem, hix, k2, s1, k3, k4, k5, polCells, lay, oneOr, List.take_succ_cons, List.take_zero, List.drop_succ_cons, List.drop_zero, List.nil_append, List.cons_append, Option.getD_some, Nat.reduceAdd, Nat.reduceLeDiff, List.append_nil, and_self, List.all_cons, List.all_nil])
   refine stk_pure (contains_ok q.attrs s (by omega)) fun v hv => ?_
   subst hv
   cases hm : decide (s ∈ q.attrs)
   ·(try simp +decide -implicitDefEqProofs only [go_sem, lay, oneOr, List.take_succ_cons, List.take_zero, List.drop_succ_cons, List.drop_zero, List.nil_append, List.cons_append, Option.getD_some, Nat.reduceAdd, Nat.reduceLeDiff, List.append_nil, and_self, List.all_cons, List.all_nil])
    refine stk_pure (contains_ok q.attrs any (by omega)) fun v hv => ?_
    subst hv
    cases hm2 : decide (any ∈ q.attrs)
    ·(try simp +decide -implicitDefEqProofs only [go_sem])
     refine aret_pure (.inr rfl) ?_; simp +decide only [retOf, tget, if_true, if_false, ↓reduceIte, List.map_cons, List.map_nil]
     rw [hno (by rw [hdef, hm, hm2]; rfl)]
    ·(try simp +decide -implicitDefEqProofs only [go_sem, hw])
     refine ⟨(), Weak.list _ (Sub.refl _) (by (try simp +decide -implicitDefEqProofs only [go_sem])), hyes (by rw [hdef, hm, hm2]; rfl)⟩
   ·(try simp +decide -implicitDefEqProofs only [go_sem, hw])
    refine ⟨(), Weak.list _ (Sub.refl _) (by (try simp +decide -implicitDefEqProofs only [go_sem])), hyes (by rw [hdef, hm]; rfl)⟩
  ·rw [if_neg hix] at fin
   subst fin
   (try simp +decide -implicitDefEqProofs only [go_sem, hix, polCells, lay, oneOr, List.take_succ_cons, List.take_zero, List.drop_succ_cons, List.drop_zero, List.nil_append, List.cons_append, Option.getD_some, Nat.reduceAdd, Nat.reduceLeDiff, List.append_nil, and_self, List.all_cons, List.all_nil])
   refine stk_pure (contains_ok q.attrs s (by omega)) fun v hv => ?_
   subst hv
   cases hm : decide (s ∈ q.attrs)
   ·(try simp +decide -implicitDefEqProofs only [go_sem, lay, oneOr, List.take_succ_cons, List.take_zero, List.drop_succ_cons, List.drop_zero, List.nil_append, List.cons_append, Option.getD_some, Nat.reduceAdd, Nat.reduceLeDiff, List.append_nil, and_self, List.all_cons, List.all_nil])
    refine stk_pure (contains_ok q.attrs ⟨#[42]⟩ (by omega)) fun v hv => ?_
    subst hv
    cases hm2 : decide ((⟨#[42]⟩ : Str) ∈ q.attrs)
    ·(try simp +decide -implicitDefEqProofs only [go_sem])
     refine aret_pure (.inr rfl) ?_; simp +decide only [retOf, tget, if_true, if_false, ↓reduceIte, List.map_cons, List.map_nil]
     rw [hno (by rw [hdef, hm, hm2]; rfl)]
    ·(try simp +decide -implicitDefEqProofs only [go_sem, hw])
     refine ⟨(), Weak.list _ (Sub.refl _) (by (try simp +decide -implicitDefEqProofs only [go_sem])), hyes (by rw [hdef, hm, hm2]; rfl)⟩
   ·(try simp +decide -implicitDefEqProofs only [go_sem, hw])
    refine ⟨(), Weak.list _ (Sub.refl _) (by (try simp +decide -implicitDefEqProofs only [go_sem])), hyes (by rw [hdef, hm]; rfl)⟩
 ·have g1 : ¬ (i : Int) < (p.attrs.length : Int) := by omega
  obtain rfl : i = p.attrs.length := by omega
  have hall : p.attrs.all (attrIn q) = true := by
   rw [List.all_eq_true]
   intro x hx
   obtain ⟨j, hj, rfl⟩ := List.getElem_of_mem hx
   have := hJ j hj
   simpa [hj] using this
  unfold strictP
  rw [hall, Bool.true_and]
  clear hJ hall
  (try simp +decide -implicitDefEqProofs only [go_sem, g1, polCells, lay, oneOr, List.take_succ_cons, List.take_zero, List.drop_succ_cons, List.drop_zero, List.nil_append, List.cons_append, Option.getD_some, Nat.reduceAdd, Nat.reduceLeDiff, List.append_nil, and_self, List.all_cons, List.all_nil])
  rw [stk_alloc]
  intro b3 h3
  cases hc : (decide (p.depth = min p.depth q.depth) && (decide (p.nodes = min p.nodes q.nodes) && decide (p.bytes = min p.bytes q.bytes)))
  ·(try simp +decide -implicitDefEqProofs only [go_sem, hc, steq3, Option.getD_some, lay, oneOr, List.take_succ_cons, List.take_zero, List.drop_succ_cons, List.drop_zero, List.nil_append, List.cons_append, Option.getD_some, Nat.reduceAdd, Nat.reduceLeDiff, List.append_nil, and_self, List.all_cons, List.all_nil])
   refine aret_pure (.inr rfl) ?_; simp +decide only [retOf, tget, if_true, if_false, ↓reduceIte, List.map_cons, List.map_nil]
   try rfl
  (try simp +decide -implicitDefEqProofs only [go_sem, hc, steq3, Option.getD_some, lay, oneOr, List.take_succ_cons, List.take_zero, List.drop_succ_cons, List.drop_zero, List.nil_append, List.cons_append, Option.getD_some, Nat.reduceAdd, Nat.reduceLeDiff, List.append_nil, and_self, List.all_cons, List.all_nil])
  refine stk_pure (all_ok p.elems q.elems (by omega) (by omega)) fun v hv => ?_
  subst hv
  cases allIn p.elems q.elems
  ·(try simp +decide -implicitDefEqProofs only [go_sem])
   refine aret_pure (.inr rfl) ?_; simp +decide only [retOf, tget, if_true, if_false, ↓reduceIte, List.map_cons, List.map_nil]
   try rfl
  (try simp +decide -implicitDefEqProofs only [go_sem, lay, oneOr, List.take_succ_cons, List.take_zero, List.drop_succ_cons, List.drop_zero, List.nil_append, List.cons_append, Option.getD_some, Nat.reduceAdd, Nat.reduceLeDiff, List.append_nil, and_self, List.all_cons, List.all_nil])
  refine stk_pure (all_ok p.schemes q.schemes (by omega) (by omega)) fun v hv => ?_
  subst hv
  cases allIn p.schemes q.schemes
  ·(try simp +decide -implicitDefEqProofs only [go_sem])
   refine aret_pure (.inr rfl) ?_; simp +decide only [retOf, tget, if_true, if_false, ↓reduceIte, List.map_cons, List.map_nil]
   try rfl
  (try simp +decide -implicitDefEqProofs only [go_sem, lay, oneOr, List.take_succ_cons, List.take_zero, List.drop_succ_cons, List.drop_zero, List.nil_append, List.cons_append, Option.getD_some, Nat.reduceAdd, Nat.reduceLeDiff, List.append_nil, and_self, List.all_cons, List.all_nil])
  refine stk_pure (all_ok p.classes q.classes (by omega) (by omega)) fun v hv => ?_
  subst hv
  cases allIn p.classes q.classes
  ·(try simp +decide -implicitDefEqProofs only [go_sem])
   refine aret_pure (.inr rfl) ?_; simp +decide only [retOf, tget, if_true, if_false, ↓reduceIte, List.map_cons, List.map_nil]
   try rfl
  (try simp +decide -implicitDefEqProofs only [go_sem, lay, oneOr, List.take_succ_cons, List.take_zero, List.drop_succ_cons, List.drop_zero, List.nil_append, List.cons_append, Option.getD_some, Nat.reduceAdd, Nat.reduceLeDiff, List.append_nil, and_self, List.all_cons, List.all_nil])
  refine stk_pure (all_ok p.props q.props (by omega) (by omega)) fun v hv => ?_
  subst hv
  (try simp +decide -implicitDefEqProofs only [go_sem])
  refine aret_pure (.inr rfl) ?_; simp +decide only [retOf, tget, if_true, if_false, ↓reduceIte, List.map_cons, List.map_nil]
  try rfl
end Go.Proofs.YtfaodacmdlnabaaGreatDoor.M
