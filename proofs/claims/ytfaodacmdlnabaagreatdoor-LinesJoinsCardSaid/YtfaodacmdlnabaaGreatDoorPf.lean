/-
 A policy as a text: walked.
-/
import Derived.Test.YtfaodacmdlnabaaGreatDoorPe
namespace Go.Proofs.YtfaodacmdlnabaaGreatDoor.M
open Go.RowKit
set_option linter.unusedVariables false
set_option linter.unusedSimpArgs false
theorem nDigits_le : ∀ (u : Nat), Lib.nDigits u ≤ u + 1 := by
 intro u
 induction u using Nat.strongRecOn with
 | _ u ih =>
  rw [Lib.nDigits]
  split
  ·omega
  ·have := ih (u / 10) (by omega)
   omega
theorem itoaS_size {n : Int} (h0 : 0 ≤ n) (h1 : n ≤ 1000000) : (itoaS n).size ≤ 1000001 := by
 have h : (itoaS n).size = (Lib.itoa n).length := by
  show (Lib.itoa n).toArray.size = _
  simp
 rw [h, Lib.itoa, if_neg (by omega), Lib.decDigits_length]
 have := nDigits_le n.toNat
 omega
theorem joinS_two (a b : Str) : (joinS [a, b] spS).size = a.size + 1 + b.size := by
 show (Lib.join [a.data.toList, b.data.toList] spS.data.toList).toArray.size = _
 have h1 : a.data.toList.length = a.size := by rw [Array.length_toList]; rfl
 have h2 : b.data.toList.length = b.size := by rw [Array.length_toList]; rfl
 simp only [List.size_toArray, Lib.join, List.intercalate, List.intersperse, List.flatten_cons, List.flatten_nil, List.length_append, List.length_nil, h1, h2]
 rw [show spS.data.toList.length = 1 from rfl]; omega
theorem joinS_four (a b c d : Str) : (joinS [a, b, c, d] spS).size = a.size + 1 + (b.size + 1 + (c.size + 1 + d.size)) := by
 show (Lib.join [a.data.toList, b.data.toList, c.data.toList, d.data.toList] spS.data.toList).toArray.size = _
 have h1 : a.data.toList.length = a.size := by rw [Array.length_toList]; rfl
 have h2 : b.data.toList.length = b.size := by rw [Array.length_toList]; rfl
 have h3 : c.data.toList.length = c.size := by rw [Array.length_toList]; rfl
 have h4 : d.data.toList.length = d.size := by rw [Array.length_toList]; rfl
 simp only [List.size_toArray, Lib.join, List.intercalate, List.intersperse, List.flatten_cons, List.flatten_nil, List.length_append, List.length_nil, h1, h2, h3, h4]
 rw [show spS.data.toList.length = 1 from rfl]; omega
def lineS (ws : List Str) : Str := joinS ws spS ++ nlS
theorem lineS_two (a b : Str) : (lineS [a, b]).size = a.size + b.size + 2 := by
 unfold lineS
 rw [ByteArray.size_append, joinS_two, show nlS.size = 1 from rfl]; omega
def linesS (hd : Str) (t : Str) (l : List Str) : Str := l.foldl (fun t s => t ++ lineS [hd, s]) t
theorem linesS_snoc (hd t : Str) (l : List Str) (s : Str) : linesS hd t (l ++ [s]) = linesS hd t l ++ lineS [hd, s] := by simp [linesS]
theorem linesS_size (hd : Str) (h1 : hd.size ≤ 100) : ∀ (l : List Str) (t : Str), (∀ s ∈ l, s.size ≤ 20000) → (linesS hd t l).size ≤ t.size + l.length * 40000
 | [], t, _ => by simp [linesS]
 | s :: l, t, h => by
  have := linesS_size hd h1 l (t ++ lineS [hd, s]) (fun x hx => h x (by simp [hx]))
  rw [ByteArray.size_append, lineS_two] at this
  have h2 := h s (by simp)
  show (linesS hd (t ++ lineS [hd, s]) l).size ≤ _
  simp only [List.length_cons]
  omega
def polLists (p : Pol) : List (List Str) := [p.elems, p.attrs, p.schemes, p.classes, p.props]
def heads : List Str := [(⟨#[101, 108, 101, 109]⟩ : ByteArray), (⟨#[97, 116, 116, 114]⟩ : ByteArray), (⟨#[115, 99, 104, 101, 109, 101]⟩ : ByteArray), (⟨#[99, 108, 97, 115, 115]⟩ : ByteArray), (⟨#[112, 114, 111, 112]⟩ : ByteArray)]
/-- The text, as far as so many of the lists. -/
def textTo (p : Pol) : Nat → Str
 | 0 => ByteArray.empty ++ lineS [(⟨#[101, 112, 111, 99, 104]⟩ : ByteArray), itoaS p.epoch]
 | n + 1 => linesS (heads.getD n ByteArray.empty) (textTo p n) ((polLists p).getD n [])
def textP (p : Pol) : Str := textTo p 5 ++ lineS [(⟨#[99, 97, 112, 115]⟩ : ByteArray), itoaS p.depth, itoaS p.nodes, itoaS p.bytes]
theorem heads_size : ∀ i, (heads.getD i ByteArray.empty).size ≤ 100
 | 0 => by decide
 | 1 => by decide
 | 2 => by decide
 | 3 => by decide
 | 4 => by decide
 | i + 5 => by simp [heads]
theorem polLists_ok (p : Pol) (F : Fits p) : ∀ i, ((polLists p).getD i []).length ≤ 20000 ∧ ∀ s ∈ (polLists p).getD i [], s.size ≤ 20000
 | 0 => ⟨F.elems, F.all p.elems (by simp)⟩
 | 1 => ⟨F.attrs, F.all p.attrs (by simp)⟩
 | 2 => ⟨F.schemes, F.all p.schemes (by simp)⟩
 | 3 => ⟨F.classes, F.all p.classes (by simp)⟩
 | 4 => ⟨F.props, F.all p.props (by simp)⟩
 | i + 5 => by simp [polLists]
theorem polRows_get (p : Pol) {i : Nat} (h : i < 5) : ((polLists p).map fun l => [AVal.sl false 1 (strRows l)]).getD i [] = [.sl false 1 (strRows ((polLists p).getD i []))] := by
 rcases i with _ | _ | _ | _ | _ | i
 ·rfl
 ·rfl
 ·rfl
 ·rfl
 ·rfl
 ·omega
theorem heads_get {i : Nat} (h : i < 5) : ([[AVal.v (.string (⟨#[101, 108, 101, 109]⟩ : ByteArray))], [.v (.string (⟨#[97, 116, 116, 114]⟩ : ByteArray))], [.v (.string (⟨#[115, 99, 104, 101, 109, 101]⟩ : ByteArray))], [.v (.string (⟨#[99, 108, 97, 115, 115]⟩ : ByteArray))], [.v (.string (⟨#[112, 114, 111, 112]⟩ : ByteArray))]] : List (List AVal)).getD i [] = [.v (.string (heads.getD i ByteArray.empty))] := by
 rcases i with _ | _ | _ | _ | _ | i
 ·rfl
 ·rfl
 ·rfl
 ·rfl
 ·rfl
 ·omega
theorem textTo_size (p : Pol) (F : Fits p) (h0 : 0 ≤ p.epoch) (h1 : p.epoch ≤ 1000000) : ∀ i, (textTo p i).size ≤ 2000000 + i * 900000000
 | 0 => by
  have := itoaS_size h0 h1
  have e : ByteArray.empty.size = 0 := rfl
  have e2 : ((⟨#[101, 112, 111, 99, 104]⟩ : ByteArray)).size = 5 := rfl
  rw [textTo, ByteArray.size_append, lineS_two, e, e2]; omega
 | i + 1 => by
  have ih := textTo_size p F h0 h1 i
  obtain ⟨h2, h3⟩ := polLists_ok p F i
  have := linesS_size (heads.getD i ByteArray.empty) (heads_size i) _ (textTo p i) h3
  rw [textTo]; omega
theorem rightP_nums {p : Pol} (h : rightP p = true) : 1 ≤ p.epoch ∧ p.epoch ≤ 1000000 ∧ 1 ≤ p.depth ∧ p.depth ≤ 64 ∧ 1 ≤ p.nodes ∧ p.nodes ≤ 2000 ∧ 1 ≤ p.bytes ∧ p.bytes ≤ 16384 := by
 unfold rightP capsP fitI at h
 simp only [Bool.and_eq_true, Bool.not_eq_true', Bool.or_eq_false_iff, decide_eq_false_iff_not, Bool.not_eq_false', decide_eq_true_eq] at h
 obtain ⟨⟨h1, h2, h3, h4, h5⟩, -⟩ := h
 omega
theorem textP_ne (p : Pol) : textP p ≠ ByteArray.empty := fun h => by
 have h2 := congrArg ByteArray.size h
 rw [textP, ByteArray.size_append, lineS, ByteArray.size_append, show nlS.size = 1 from rfl, show ByteArray.empty.size = 0 from rfl] at h2
 omega
def textR (p : Pol) : AVal := if rightP p then .tup [.v (.string (textP p)), .v (.int .i64 0)] else .tup [.v (.string ByteArray.empty), .v (.int .i64 2)]
theorem fresh_build {b : Nat} {H : AHeap} (h : H b = some (.cells 45 [.v (.pointer none), .v (.slice none 0 0)])) : BuildH H b ByteArray.empty := ⟨none, _, h, .inl rfl, .nil⟩
theorem Sub.drop {b g : Nat} {o o' : AObj} : Sub (AHeap.none.put b o) ((AHeap.none.put g o').put b o) := fun c x h => by
 simp only [AHeap.put] at h ⊢
 split at h
 ·rename_i e; rw [if_pos e]; exact h
 ·cases h
def c_Text : AFn := ⟨1, 66, [2, 3],
 .seq (.ops [oe 1 (.box 36 (.tmp 0)),
   oq 2 (.mv (.const (.string ByteArray.empty))),
   oq 3 (.mv (.const (.int .i64 0)))])
 (.seq (.seq (.ops [oq 10 (.ld true 9 (.tmp 1)),
   oe 11 (.call 61 [(.tmp 10)]),
   oq 12 (.un .not (.tmp 11))])
 (.cond (.tmp 12)
  (.seq (.ops [oq 2 (.mv (.const (.string ByteArray.empty))),
    oq 3 (.mv (.const (.int .i64 2)))])
  (.ret))
  (.skip)))
 (.seq (.ops [oe 4 (.alloc 45 [(.pointer none), (.slice none 0 0)])])
 (.seq (.ops [oq 13 (.mkf 62 [(.tmp 4)]),
   oq 5 (.mv (.tmp 13))])
 (.seq (.ops [oq 14 (.mv (.tmp 5)),
   oq 15 (.fad 0 1 (.tmp 1)),
   oq 16 (.ld false 1 (.tmp 15)),
   oe 17 (.call 57 [(.tmp 16)]),
   oe 18 (.bsl 9 1 [(.const (.string ⟨#[101, 112, 111, 99, 104]⟩)), (.tmp 17)]),
   oe 19 (.callv (.tmp 14) [(.tmp 18)])])
 (.seq (.seq (.ops [oq 20 (.fad 1 1 (.tmp 1)),
   oq 21 (.ld false 1 (.tmp 20)),
   oq 22 (.fad 2 1 (.tmp 1)),
   oq 23 (.ld false 1 (.tmp 22)),
   oq 24 (.fad 3 1 (.tmp 1)),
   oq 25 (.ld false 1 (.tmp 24)),
   oq 26 (.fad 4 1 (.tmp 1)),
   oq 27 (.ld false 1 (.tmp 26)),
   oq 28 (.fad 5 1 (.tmp 1)),
   oq 29 (.ld false 1 (.tmp 28)),
   oe 30 (.bsl 34 1 [(.tmp 21), (.tmp 23), (.tmp 25), (.tmp 27), (.tmp 29)]),
   oq 31 (.len false (.tmp 30)),
   oq 32 (.mv (.const (.int .i64 0)))])
 (.block 0 (.loop (.seq (.ops [oq 33 (.bin .lss .num (.tmp 32) (.tmp 31))])
   (.seq (.cond (.tmp 33)
    (.skip)
    (.exit 0))
   (.seq (.block 1 (.seq (.ops [oq 34 (.mv (.tmp 32)),
      oq 35 (.ixa 1 (.tmp 30) (.tmp 32)),
      oq 36 (.ld false 1 (.tmp 35)),
      oq 6 (.mv (.tmp 34)),
      oq 7 (.mv (.tmp 36))])
    (.seq (.ops [oq 37 (.mv (.tmp 7)),
      oq 38 (.len false (.tmp 37)),
      oq 39 (.mv (.const (.int .i64 0)))])
    (.block 2 (.loop (.seq (.ops [oq 40 (.bin .lss .num (.tmp 39) (.tmp 38))])
      (.seq (.cond (.tmp 40)
       (.skip)
       (.exit 2))
      (.seq (.block 3 (.seq (.ops [oq 41 (.ixa 1 (.tmp 37) (.tmp 39)),
         oq 42 (.ld false 1 (.tmp 41)),
         oq 9 (.mv (.tmp 42))])
       (.ops [oq 43 (.mv (.tmp 5)),
         oe 44 (.bsl 9 1 [(.const (.string ⟨#[101, 108, 101, 109]⟩)), (.const (.string ⟨#[97, 116, 116, 114]⟩)), (.const (.string ⟨#[115, 99, 104, 101, 109, 101]⟩)), (.const (.string ⟨#[99, 108, 97, 115, 115]⟩)), (.const (.string ⟨#[112, 114, 111, 112]⟩))]),
         oq 45 (.mv (.tmp 6)),
         oq 46 (.ixa 1 (.tmp 44) (.tmp 45)),
         oq 47 (.ld false 1 (.tmp 46)),
         oq 48 (.mv (.tmp 9)),
         oe 49 (.bsl 9 1 [(.tmp 47), (.tmp 48)]),
         oe 50 (.callv (.tmp 43) [(.tmp 49)])])))
      (.ops [oq 51 (.bin .add .num (.tmp 39) (.const (.int .i64 1))),
        oq 39 (.mv (.tmp 51))])))))))))
   (.ops [oq 52 (.bin .add .num (.tmp 32) (.const (.int .i64 1))),
     oq 32 (.mv (.tmp 52))])))))))
 (.seq (.ops [oq 53 (.mv (.tmp 5)),
   oq 54 (.fad 6 1 (.tmp 1)),
   oq 55 (.ld false 1 (.tmp 54)),
   oq 57 (.fad 7 1 (.tmp 1)),
   oq 58 (.ld false 1 (.tmp 57)),
   oq 60 (.fad 8 1 (.tmp 1)),
   oq 61 (.ld false 1 (.tmp 60)),
   oe 56 (.callq 57 [(.tmp 55)]),
   oe 59 (.callq 57 [(.tmp 58)]),
   oe 62 (.call 57 [(.tmp 61)]),
   oe 63 (.bsl 9 1 [(.const (.string ⟨#[99, 97, 112, 115]⟩)), (.tmp 56), (.tmp 59), (.tmp 62)]),
   oe 64 (.callv (.tmp 53) [(.tmp 63)])])
 (.seq (.ops [oe 65 (.call 19 [(.tmp 4)]),
   oq 2 (.mv (.tmp 65)),
   oq 3 (.mv (.const (.int .i64 0)))])
 (.ret)))))))), []⟩
theorem k_Text : compF Tryz.prog 30 = some c_Text := by kernel_rfl
set_option maxHeartbeats 8000000 in
theorem text_ok {W : World} (L : Laid W) (p : Pol) (F : Fits p) : ACalls Tryz.prog W 30 [.agg (polCells p)] AHeap.none fun v _ => v = textR p := by
 have hp0 : polCells p = [.v (.int .i64 p.epoch), .sl false 1 (strRows p.elems), .sl false 1 (strRows p.attrs), .sl false 1 (strRows p.schemes), .sl false 1 (strRows p.classes), .sl false 1 (strRows p.props), .v (.int .i64 p.depth), .v (.int .i64 p.nodes), .v (.int .i64 p.bytes)] := rfl
 refine fn_run follows k_Text rfl ?_
 simp only [oq, og, oe, oh, on, c_Text, aretC_nil, List.zipIdx_cons, List.zipIdx_nil, List.map_cons, List.map_nil, Nat.zero_add]
 (try simp +decide -implicitDefEqProofs only [go_sem])
 rw [stk_box]
 refine ⟨by rfl, fun b1 h1 => ?_⟩
 (try simp +decide -implicitDefEqProofs only [go_sem, polCells, lay, oneOr, List.take_succ_cons, List.take_zero, List.drop_succ_cons, List.drop_zero, List.nil_append, List.cons_append, Option.getD_some, Nat.reduceAdd, Nat.reduceLeDiff, List.append_nil, and_self, List.all_cons, List.all_nil])
 refine stk_pure (right_ok L p F) fun v hv => ?_
 subst hv
 unfold textR
 cases hr : rightP p
 ·(try simp +decide -implicitDefEqProofs only [go_sem])
  refine aret_pure (.inr rfl) ?_; simp +decide only [retOf, tget, if_true, if_false, ↓reduceIte, List.map_cons, List.map_nil]
  try rfl
 obtain ⟨r1, r2, r3, r4, r5, r6, r7, r8⟩ := rightP_nums hr
 (try simp +decide -implicitDefEqProofs only [go_sem])
 rw [stk_alloc]
 intro b2 h2
 have n2 := new_ne (hp_self _ _ _) h2
 have n2' := n2.symm
 (try simp +decide -implicitDefEqProofs only [go_sem, hp_ne, n2, n2', ne_eq, not_false_eq_true, lay, oneOr, List.take_succ_cons, List.take_zero, List.drop_succ_cons, List.drop_zero, List.nil_append, List.cons_append, Option.getD_some, Nat.reduceAdd, Nat.reduceLeDiff, List.append_nil, and_self, List.all_cons, List.all_nil])
 refine stk_pureW ⟨[(16, .v (.int .i64 p.epoch)), (14, .fn 62 [.v (.pointer (some ⟨b2, 0, none⟩))]), (5, .fn 62 [.v (.pointer (some ⟨b2, 0, none⟩))]), (4, .v (.pointer (some ⟨b2, 0, none⟩))), (1, .pl (polCells p))], AHeap.none.put b2 (.cells 45 [.v (.pointer none), .v (.slice none 0 0)])⟩ (Weak.list _ Sub.drop ?_) (itoa_ok L p.epoch (by omega) (by omega)) fun v hv => ?_
 ·(try simp +decide -implicitDefEqProofs only [go_sem])
  exact FZ.cellsR ((hp_ne _ _ n2').trans (hp_self _ _ _)) (by rw [hp_ne _ _ n2']; rfl)
 subst hv
 have hB := fresh_build (b := b2) (hp_self AHeap.none _ _)
 generalize AHeap.none.put b2 (.cells 45 [.v (.pointer none), .v (.slice none 0 0)]) = H at hB ⊢
 (try simp +decide -implicitDefEqProofs only [go_sem, lay, oneOr, List.take_succ_cons, List.take_zero, List.drop_succ_cons, List.drop_zero, List.nil_append, List.cons_append, Option.getD_some, Nat.reduceAdd, Nat.reduceLeDiff, List.append_nil, and_self, List.all_cons, List.all_nil])
 have hez := itoaS_size (n := p.epoch) (by omega) (by omega)
 have h5 : ((⟨#[101, 112, 111, 99, 104]⟩ : ByteArray)).size = 5 := rfl
 have hj := joinS_two ((⟨#[101, 112, 111, 99, 104]⟩ : ByteArray)) (itoaS p.epoch)
 have e0 : ByteArray.empty.size = 0 := rfl
 refine stk_callvH (f := 62) (caps := [.v (.pointer (some ⟨b2, 0, none⟩))]) (by rfl) (by kernel_rfl) (lay_ok (f := true) [(⟨#[101, 112, 111, 99, 104]⟩ : ByteArray), itoaS p.epoch] hB (by simp) (by omega)) fun v H1 hB1 => ?_
 have hB1 : BuildH H1 b2 (textTo p 0) := hB1
 clear hB hez h5 hj e0
 (try simp +decide -implicitDefEqProofs only [go_sem, polCells, lay, oneOr, List.take_succ_cons, List.take_zero, List.drop_succ_cons, List.drop_zero, List.nil_append, List.cons_append, Option.getD_some, Nat.reduceAdd, Nat.reduceLeDiff, List.append_nil, and_self, List.all_cons, List.all_nil])
 refine stk_up (α := AHeap) 5 (fun i H => ⟨[(32, .v (.int .i64 i)), (31, .v (.int .i64 ((5 : Nat) : Int))), (30, .sl true 1 ((polLists p).map fun l => [AVal.sl false 1 (strRows l)])), (5, .fn 62 [.v (.pointer (some ⟨b2, 0, none⟩))]), (4, .v (.pointer (some ⟨b2, 0, none⟩))), (1, .pl (polCells p))], H⟩) (fun i H => BuildH H b2 (textTo p i)) H1 (Weak.list _ (Sub.refl _) ?_) hB1 ?_
 ·(try simp +decide -implicitDefEqProofs only [go_sem])
  first | done | exact FZ.refl _ | exact ⟨FZ.refl _, FZ.refl _⟩ | exact ⟨FZ.refl _, FZ.refl _, FZ.refl _⟩
 clear hB1
 rintro i H2 hi hB2
 by_cases hlt : i < 5
 ·have g1 : (i : Int) < ((5 : Nat) : Int) := by omega
  have hwi := wrap_in (n := (i : Int) + 1) (by omega) (by omega)
  have hg := polRows_get p hlt
  have hgl : ((polLists p).map fun l => [AVal.sl false 1 (strRows l)]).length = 5 := rfl
  have hh := heads_get hlt
  have hsz := textTo_size p F (by omega) (by omega) i
  obtain ⟨hl1, hl2⟩ := polLists_ok p F i
  have hdz := heads_size i
  have hsucc : textTo p (i + 1) = linesS (heads.getD i ByteArray.empty) (textTo p i) ((polLists p).getD i []) := rfl
  generalize (polLists p).getD i [] = l at hg hl1 hl2 hsucc
  generalize heads.getD i ByteArray.empty = hd at hh hdz hsucc
  generalize textTo p i = t at hsz hsucc hB2
  rw [hsucc]
  (try simp +decide -implicitDefEqProofs only [go_sem, g1, hlt, hg, hgl])
  refine stk_up (α := AHeap) l.length (fun k H => ⟨[(39, .v (.int .i64 k)), (38, .v (.int .i64 l.length)), (37, .sl false 1 (strRows l)), (6, .v (.int .i64 i)), (32, .v (.int .i64 i)), (31, .v (.int .i64 ((5 : Nat) : Int))), (30, .sl true 1 ((polLists p).map fun l => [AVal.sl false 1 (strRows l)])), (5, .fn 62 [.v (.pointer (some ⟨b2, 0, none⟩))]), (4, .v (.pointer (some ⟨b2, 0, none⟩))), (1, .pl (polCells p))], H⟩) (fun k H => BuildH H b2 (linesS hd t (l.take k))) H2 (Weak.list _ (Sub.refl _) (by (try simp +decide -implicitDefEqProofs only [go_sem]))) hB2 ?_
  clear hB2
  rintro k H3 hk hB3
  by_cases hkl : k < l.length
  ·have g2 : (k : Int) < (l.length : Int) := by omega
   have hwk := wrap_in (n := (k : Int) + 1) (by omega) (by omega)
   have hgk := strRows_get hkl
   have hget : l.getD k ByteArray.empty = l[k] := by simp [hkl]
   have hsk := hl2 (l.getD k ByteArray.empty) (by rw [hget]; exact List.getElem_mem _)
   have hts := linesS_size hd hdz (l.take k) t (fun s hs => hl2 s (List.mem_of_mem_take hs))
   rw [List.length_take] at hts
   have hj := joinS_two hd (l.getD k ByteArray.empty)
   have g3 : (i : Int) < 5 := by omega
   have g4 : (i : Int) < 0 + 1 + 1 + 1 + 1 + 1 := by omega
   (try simp +decide -implicitDefEqProofs only [go_sem, g1, g2, hkl, hgk, hlt, hh, lay, oneOr, List.take_succ_cons, List.take_zero, List.drop_succ_cons, List.drop_zero, List.nil_append, List.cons_append, Option.getD_some, Nat.reduceAdd, Nat.reduceLeDiff, List.append_nil, and_self, List.all_cons, List.all_nil])
   refine stk_callvH (f := 62) (caps := [.v (.pointer (some ⟨b2, 0, none⟩))]) (by rfl) (by kernel_rfl) (lay_ok (f := true) [hd, l.getD k ByteArray.empty] hB3 (by simp) (by omega)) fun v H4 hB4 => ?_
   (try simp +decide -implicitDefEqProofs only [go_sem, hwk])
   refine ⟨H4, Weak.list _ (Sub.refl _) (by (try simp +decide -implicitDefEqProofs only [go_sem])), ?_⟩
   rw [List.take_succ_eq_append_getElem hkl, linesS_snoc, ← hget]
   exact hB4
  ·have g2 : ¬ (k : Int) < (l.length : Int) := by omega
   rw [List.take_of_length_le (by omega)] at hB3
   (try simp +decide -implicitDefEqProofs only [go_sem, g2, hwi])
   refine ⟨H3, Weak.list _ (Sub.refl _) (by (try simp +decide -implicitDefEqProofs only [go_sem])), hB3⟩
 ·have g1 : ¬ (i : Int) < ((5 : Nat) : Int) := by omega
  obtain rfl : i = 5 := by omega
  have hsz := textTo_size p F (by omega) (by omega) 5
  have k1 := itoaS_size (n := p.depth) (by omega) (by omega)
  have k2 := itoaS_size (n := p.nodes) (by omega) (by omega)
  have k3 := itoaS_size (n := p.bytes) (by omega) (by omega)
  have k4 : ((⟨#[99, 97, 112, 115]⟩ : ByteArray)).size = 4 := rfl
  have k5 := joinS_four ((⟨#[99, 97, 112, 115]⟩ : ByteArray)) (itoaS p.depth) (itoaS p.nodes) (itoaS p.bytes)
  (try simp +decide -implicitDefEqProofs only [go_sem, g1, polCells, lay, oneOr, List.take_succ_cons, List.take_zero, List.drop_succ_cons, List.drop_zero, List.nil_append, List.cons_append, Option.getD_some, Nat.reduceAdd, Nat.reduceLeDiff, List.append_nil, and_self, List.all_cons, List.all_nil])
  refine stk_callq (itoa_ok L p.depth (by omega) (by omega)) fun v hv => ?_
  subst hv
  (try simp +decide -implicitDefEqProofs only [go_sem, lay, oneOr, List.take_succ_cons, List.take_zero, List.drop_succ_cons, List.drop_zero, List.nil_append, List.cons_append, Option.getD_some, Nat.reduceAdd, Nat.reduceLeDiff, List.append_nil, and_self, List.all_cons, List.all_nil])
  refine stk_callq (itoa_ok L p.nodes (by omega) (by omega)) fun v hv => ?_
  subst hv
  (try simp +decide -implicitDefEqProofs only [go_sem, lay, oneOr, List.take_succ_cons, List.take_zero, List.drop_succ_cons, List.drop_zero, List.nil_append, List.cons_append, Option.getD_some, Nat.reduceAdd, Nat.reduceLeDiff, List.append_nil, and_self, List.all_cons, List.all_nil])
  refine stk_pure (itoa_ok L p.bytes (by omega) (by omega)) fun v hv => ?_
  subst hv
  (try simp +decide -implicitDefEqProofs only [go_sem, lay, oneOr, List.take_succ_cons, List.take_zero, List.drop_succ_cons, List.drop_zero, List.nil_append, List.cons_append, Option.getD_some, Nat.reduceAdd, Nat.reduceLeDiff, List.append_nil, and_self, List.all_cons, List.all_nil])
  refine stk_callvH (f := 62) (caps := [.v (.pointer (some ⟨b2, 0, none⟩))]) (by rfl) (by kernel_rfl) (lay_ok (f := true) [(⟨#[99, 97, 112, 115]⟩ : ByteArray), itoaS p.depth, itoaS p.nodes, itoaS p.bytes] hB2 (by simp) (by omega)) fun v H4 hB4 => ?_
  have hB4 : BuildH H4 b2 (textP p) := hB4
  (try simp +decide -implicitDefEqProofs only [go_sem])
  refine stk_call (bstring_ok hB4 (textP_ne p)) fun v H5 hv => ?_
  subst hv
  (try simp +decide -implicitDefEqProofs only [go_sem])
  refine aret_pure (.inr rfl) ?_; simp +decide only [retOf, tget, if_true, if_false, ↓reduceIte, List.map_cons, List.map_nil]
  try rfl
end Go.Proofs.YtfaodacmdlnabaaGreatDoor.M
