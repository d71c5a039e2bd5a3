/-
 Lines: a line of parts.
-/
import Derived.Test.YtfaodacmdlnabaaGreatDoorLc
namespace Go.Proofs.YtfaodacmdlnabaaGreatDoor.M
open Go.RowKit
set_option linter.unusedVariables false
set_option linter.unusedSimpArgs false
inductive Part
 | str (s : Str)
 | num (n : Int)
 | id (s : Str)
 | rest (s : Str)
def partV : Part → AVal
 | .str s => .ifc 9 (.v (.string s))
 | .num n => .ifc 3 (.v (.int .i64 n))
 | .id s => .ifc 66 (.v (.string s))
 | .rest s => .ifc 62 (.v (.string s))
def partS : Part → Option Str
 | .str s => some s
 | .num n => if 0 ≤ n ∧ n ≤ 99999 then some (itoaS n) else none
 | .id s => if idOk s = true then some s else none
 | .rest s => some (escS s)
def Part.Fits : Part → Prop
 | .str s => s.size ≤ 100000000
 | .num n => True
 | .id s => s.size ≤ 100000000
 | .rest s => s.size ≤ 100000000
def partRow (p : Part) : List AVal := [partV p]
def partsS : List Part → Option (List Str)
 | [] => some []
 | p :: r => match partS p with
  | none => none
  | some s => match partsS r with
   | none => none
   | some l => some (s :: l)
theorem partsS_snoc (p : Part) : ∀ l : List Part, partsS (l ++ [p]) = match partsS l with
  | none => none
  | some r => match partS p with
   | none => none
   | some s => some (r ++ [s])
 | [] => by
  rw [List.nil_append]
  show (match partS p with | none => none | some s => some [s]) = (match partS p with | none => none | some s => some [s])
  rfl
 | q :: l => by
  rw [List.cons_append, partsS, partsS_snoc p l]
  show _ = match (match partS q with | none => none | some s => match partsS l with | none => none | some l => some (s :: l)) with | none => none | some r => _
  cases partS q with
  | none => rfl
  | some s =>
   cases partsS l with
   | none => rfl
   | some r => cases partS p <;> rfl
theorem partsS_none : ∀ {l : List Part} {p : Part}, p ∈ l → partS p = none → partsS l = none
 | q :: l, p, h, hp => by
  rw [partsS]
  rcases List.mem_cons.1 h with rfl | h
  ·rw [hp]
  ·cases partS q with
   | none => rfl
   | some s => rw [partsS_none h hp]
theorem partsS_len : ∀ {l : List Part} {r : List Str}, partsS l = some r → r.length = l.length
 | [], r, h => by cases h; rfl
 | p :: l, r, h => by
  rw [partsS] at h
  cases hp : partS p with
  | none => rw [hp] at h; cases h
  | some s =>
   rw [hp] at h
   dsimp only at h
   cases hl : partsS l with
   | none => rw [hl] at h; cases h
   | some q =>
    rw [hl] at h
    cases h
    rw [List.length_cons, List.length_cons, partsS_len hl]
theorem escS_size (s : Str) : (escS s).size ≤ 2 * s.size := by
 unfold escS
 rw [mkS_size]
 have := escL_len (bl s)
 rw [bl_len] at this; exact this
theorem partS_size {p : Part} {s : Str} (F : p.Fits) (h : partS p = some s) : s.size ≤ 200000000 := by
 cases p with
 | str t => cases h; unfold Part.Fits at F; omega
 | num n =>
  simp only [partS] at h
  split at h
  ·cases h
   rename_i hn
   have := itoaS_size (n := n) hn.1 (by omega)
   omega
  ·cases h
 | id t =>
  simp only [partS] at h
  split at h
  ·cases h; unfold Part.Fits at F; omega
  ·cases h
 | rest t =>
  simp only [partS] at h
  cases h
  have := escS_size t
  unfold Part.Fits at F; omega
theorem partsS_size : ∀ {l : List Part} {r : List Str}, (∀ p ∈ l, p.Fits) → partsS l = some r → ∀ s ∈ r, s.size ≤ 200000000
 | [], r, F, h, s, hs => by cases h; cases hs
 | p :: l, r, F, h, s, hs => by
  rw [partsS] at h
  cases hp : partS p with
  | none => rw [hp] at h; cases h
  | some t =>
   rw [hp] at h
   dsimp only at h
   cases hl : partsS l with
   | none => rw [hl] at h; cases h
   | some q =>
    rw [hl] at h
    cases h
    rcases List.mem_cons.1 hs with rfl | hs
    ·exact partS_size (F p (by simp)) hp
    ·exact partsS_size (fun x hx => F x (by simp [hx])) hl s hs
def lnLine (ps : List Part) : Option Str := match partsS ps with
 | none => none
 | some l => some (joinS l spS ++ nlS)
def optR : Option Str → AVal
 | none => .tup [.v (.string ByteArray.empty), .v (.bool false)]
 | some s => .tup [.v (.string s), .v (.bool true)]
theorem partRows_get {l : List Part} {i : Nat} (h : i < l.length) : (l.map partRow).getD i [] = [partV l[i]] := by simp [partRow, h]
def c_lnLine : AFn := ⟨1, 61, [2, 3],
 .seq (.ops [oq 2 (.mv (.const (.string ByteArray.empty))),
   oq 3 (.mv (.const (.bool false)))])
 (.seq (.ops [oq 4 (.mv (.const (.slice none 0 0)))])
 (.seq (.seq (.ops [oq 11 (.mv (.tmp 0)),
   oq 12 (.len false (.tmp 11)),
   oq 13 (.mv (.const (.int .i64 0)))])
 (.block 0 (.loop (.seq (.ops [oq 14 (.bin .lss .num (.tmp 13) (.tmp 12))])
   (.seq (.cond (.tmp 14)
    (.skip)
    (.exit 0))
   (.seq (.block 1 (.seq (.ops [oq 15 (.ixa 1 (.tmp 11) (.tmp 13)),
      oq 16 (.ld false 1 (.tmp 15)),
      oq 6 (.mv (.tmp 16))])
    (.seq (.ops [oq 17 (.mv (.tmp 6))])
    (.block 2 (.seq (.ops [oq 18 (.tas 9 (.string ByteArray.empty) (.tmp 17)),
       oq 19 (.ext (.tmp 18) 1),
       oq 20 (.ext (.tmp 18) 0)])
     (.cond (.tmp 19)
      (.seq (.ops [oq 7 (.mv (.tmp 20))])
      (.ops [oq 21 (.mv (.tmp 4)),
        oq 22 (.mv (.tmp 7)),
        oe 23 (.bsl 9 1 [(.tmp 22)]),
        oe 24 (.app 9 1 16 false (.tmp 21) (.tmp 23)),
        oq 4 (.mv (.tmp 24))]))
      (.seq (.ops [oq 25 (.tas 3 (.int .i64 0) (.tmp 17)),
        oq 26 (.ext (.tmp 25) 1),
        oq 27 (.ext (.tmp 25) 0)])
      (.cond (.tmp 26)
       (.seq (.ops [oq 8 (.mv (.tmp 27))])
       (.seq (.seq (.ops [oq 28 (.mv (.tmp 8)),
         oq 29 (.bin .lss .num (.tmp 28) (.const (.int .i64 0))),
         oq 30 (.mv (.tmp 29)),
         og 31 30 false (.mv (.tmp 8)),
         og 32 30 false (.bin .gtr .num (.tmp 31) (.const (.int .i64 99999))),
         oq 33 (.pick (.tmp 30) (.const (.bool true)) (.tmp 32))])
       (.cond (.tmp 33)
        (.seq (.ops [oq 2 (.mv (.const (.string ByteArray.empty))),
          oq 3 (.mv (.const (.bool false)))])
        (.ret))
        (.skip)))
       (.ops [oq 34 (.mv (.tmp 4)),
         oq 35 (.mv (.tmp 8)),
         oe 36 (.call 57 [(.tmp 35)]),
         oe 37 (.bsl 9 1 [(.tmp 36)]),
         oe 38 (.app 9 1 16 false (.tmp 34) (.tmp 37)),
         oq 4 (.mv (.tmp 38))])))
       (.seq (.ops [oq 39 (.tas 66 (.string ByteArray.empty) (.tmp 17)),
         oq 40 (.ext (.tmp 39) 1),
         oq 41 (.ext (.tmp 39) 0)])
       (.cond (.tmp 40)
        (.seq (.ops [oq 9 (.mv (.tmp 41))])
        (.seq (.seq (.ops [oq 42 (.mv (.tmp 9)),
          oe 43 (.call 58 [(.tmp 42)]),
          oq 44 (.un .not (.tmp 43))])
        (.cond (.tmp 44)
         (.seq (.ops [oq 2 (.mv (.const (.string ByteArray.empty))),
           oq 3 (.mv (.const (.bool false)))])
         (.ret))
         (.skip)))
        (.ops [oq 45 (.mv (.tmp 4)),
          oq 46 (.mv (.tmp 9)),
          oe 47 (.bsl 9 1 [(.tmp 46)]),
          oe 48 (.app 9 1 16 false (.tmp 45) (.tmp 47)),
          oq 4 (.mv (.tmp 48))])))
        (.seq (.ops [oq 49 (.tas 62 (.string ByteArray.empty) (.tmp 17)),
          oq 50 (.ext (.tmp 49) 1),
          oq 51 (.ext (.tmp 49) 0)])
        (.cond (.tmp 50)
         (.seq (.ops [oq 10 (.mv (.tmp 51))])
         (.ops [oq 52 (.mv (.tmp 4)),
           oq 53 (.mv (.tmp 10)),
           oe 54 (.call 59 [(.tmp 53)]),
           oe 55 (.bsl 9 1 [(.tmp 54)]),
           oe 56 (.app 9 1 16 false (.tmp 52) (.tmp 55)),
           oq 4 (.mv (.tmp 56))]))
         (.skip)))))))))))))
   (.ops [oq 57 (.bin .add .num (.tmp 13) (.const (.int .i64 1))),
     oq 13 (.mv (.tmp 57))])))))))
 (.seq (.ops [oq 58 (.mv (.tmp 4)),
   oe 59 (.call 60 [(.tmp 58), (.const (.string ⟨#[32]⟩))]),
   oq 60 (.bin .add .num (.tmp 59) (.const (.string ⟨#[10]⟩))),
   oq 2 (.mv (.tmp 60)),
   oq 3 (.mv (.const (.bool true)))])
 (.ret)))), []⟩
theorem k_lnLine : compF Tryz.prog 27 = some c_lnLine := by kernel_rfl
set_option maxHeartbeats 4000000 in
theorem line_okL {W : World} (L : Laid W) (f : Bool) (ps : List Part) (hn : ps.length ≤ 10) (F : ∀ p ∈ ps, p.Fits) : ACalls Tryz.prog W 27 [.sl f 1 (ps.map partRow)] AHeap.none fun v _ => v = optR (lnLine ps) := by
 refine fn_run follows k_lnLine rfl ?_
 simp only [oq, og, oe, oh, on, c_lnLine, aretC_nil, List.zipIdx_cons, List.zipIdx_nil, List.map_cons, List.map_nil, Nat.zero_add]
 have hlen : (ps.map partRow).length = ps.length := by simp
 (try simp +decide -implicitDefEqProofs only [go_sem, hlen])
 refine stk_up (α := AVal × AHeap × List Str) ps.length (fun i a => ⟨[(13, .v (.int .i64 i)), (12, .v (.int .i64 ps.length)), (11, .sl f 1 (ps.map partRow)), (4, a.1)], a.2.1⟩) (fun i a => RowO a.2.1 9 1 a.1 (strRows a.2.2) ∧ partsS (ps.take i) = some a.2.2) (.v (.slice none 0 0), AHeap.none, []) (Weak.list _ (Sub.refl _) (by (try simp +decide -implicitDefEqProofs only [go_sem, hlen]))) ⟨.nil, rfl⟩ ?_
 rintro i ⟨x, H, outs⟩ hi ⟨hrow, houts⟩
 dsimp only at hrow houts ⊢
 by_cases hlt : i < ps.length
 ·have g1 : (i : Int) < (ps.length : Int) := by omega
  have hw := wrap_in (n := (i : Int) + 1) (by omega) (by omega)
  have hgt := partRows_get hlt
  have hol := partsS_len houts
  rw [List.length_take] at hol
  have hmem : ps[i] ∈ ps := List.getElem_mem hlt
  have hF := F _ hmem
  have hstep : ∀ s, partS ps[i] = some s → partsS (ps.take (i + 1)) = some (outs ++ [s]) := fun s hs => by
   rw [List.take_succ_eq_append_getElem hlt, partsS_snoc, houts]
   dsimp only
   rw [hs]
  have hnone : partS ps[i] = none → AVal.tup [.v (.string ByteArray.empty), .v (.bool false)] = optR (lnLine ps) := fun h => by
   unfold lnLine
   rw [partsS_none hmem h]; rfl
  have hx : x.one = true := hrow.one
  generalize ps[i] = p at hgt hF hstep hnone
  cases p with
  | str s =>
   (try simp +decide -implicitDefEqProofs only [go_sem, g1, hlen, hlt, hgt, partV])
   refine stk_appO hrow (by rfl) (by simp only [strRows_len, List.length_cons, List.length_nil]; omega) fun x1 H1 hr1 _ => ?_
   (try simp +decide -implicitDefEqProofs only [go_sem, hw])
   exact ⟨(x1, H1, outs ++ [s]), Weak.list _ (Sub.refl _) (by (try simp +decide -implicitDefEqProofs only [go_sem])), by simpa [strRows, strRow] using hr1, hstep s rfl⟩
  | num n =>
   by_cases h1 : n < 0
   ·(try simp +decide -implicitDefEqProofs only [go_sem, g1, hlen, hlt, hgt, partV, h1])
    refine aret_pure (.inr rfl) ?_; simp +decide only [retOf, tget, if_true, if_false, ↓reduceIte, List.map_cons, List.map_nil]
    exact hnone (by simp only [partS]; rw [if_neg (by omega)])
   by_cases h2 : n > 99999
   ·(try simp +decide -implicitDefEqProofs only [go_sem, g1, hlen, hlt, hgt, partV, h1, h2])
    refine aret_pure (.inr rfl) ?_; simp +decide only [retOf, tget, if_true, if_false, ↓reduceIte, List.map_cons, List.map_nil]
    exact hnone (by simp only [partS]; rw [if_neg (by omega)])
   (try simp +decide -implicitDefEqProofs only [go_sem, g1, hlen, hlt, hgt, partV, h1, h2])
   refine stk_pure (itoa_ok L n (by omega) (by omega)) fun v hv => ?_
   subst hv
   (try simp +decide -implicitDefEqProofs only [go_sem])
   refine stk_appO hrow (by rfl) (by simp only [strRows_len, List.length_cons, List.length_nil]; omega) fun x1 H1 hr1 _ => ?_
   (try simp +decide -implicitDefEqProofs only [go_sem, hw])
   exact ⟨(x1, H1, outs ++ [itoaS n]), Weak.list _ (Sub.refl _) (by (try simp +decide -implicitDefEqProofs only [go_sem])), by simpa [strRows, strRow] using hr1, hstep _ (by simp only [partS]; rw [if_pos (by omega)])⟩
  | id s =>
   unfold Part.Fits at hF
   (try simp +decide -implicitDefEqProofs only [go_sem, g1, hlen, hlt, hgt, partV])
   refine stk_pure (lnID_ok s (by unfold maxLen; omega)) fun v hv => ?_
   subst hv
   cases hid : idOk s
   ·(try simp +decide -implicitDefEqProofs only [go_sem])
    refine aret_pure (.inr rfl) ?_; simp +decide only [retOf, tget, if_true, if_false, ↓reduceIte, List.map_cons, List.map_nil]
    exact hnone (by simp only [partS]; rw [if_neg (by simp [hid])])
   ·(try simp +decide -implicitDefEqProofs only [go_sem])
    refine stk_appO hrow (by rfl) (by simp only [strRows_len, List.length_cons, List.length_nil]; omega) fun x1 H1 hr1 _ => ?_
    (try simp +decide -implicitDefEqProofs only [go_sem, hw])
    exact ⟨(x1, H1, outs ++ [s]), Weak.list _ (Sub.refl _) (by (try simp +decide -implicitDefEqProofs only [go_sem])), by simpa [strRows, strRow] using hr1, hstep _ (by simp only [partS]; rw [if_pos hid])⟩
  | rest s =>
   unfold Part.Fits at hF
   (try simp +decide -implicitDefEqProofs only [go_sem, g1, hlen, hlt, hgt, partV])
   refine stk_pure (escape_ok L s hF) fun v hv => ?_
   subst hv
   (try simp +decide -implicitDefEqProofs only [go_sem])
   refine stk_appO hrow (by rfl) (by simp only [strRows_len, List.length_cons, List.length_nil]; omega) fun x1 H1 hr1 _ => ?_
   (try simp +decide -implicitDefEqProofs only [go_sem, hw])
   exact ⟨(x1, H1, outs ++ [escS s]), Weak.list _ (Sub.refl _) (by (try simp +decide -implicitDefEqProofs only [go_sem])), by simpa [strRows, strRow] using hr1, hstep _ rfl⟩
 ·have g1 : ¬ (i : Int) < (ps.length : Int) := by omega
  rw [List.take_of_length_le (by omega)] at houts
  have hol := partsS_len houts
  have hz := joinS_most 200000000 spS outs (partsS_size F houts)
  have hz2 : (joinS outs spS).size ≤ 10 * 200000001 := Nat.le_trans hz (Nat.mul_le_mul (by omega) (Nat.le_refl _))
  have e2 : (⟨#[10]⟩ : ByteArray).size = 1 := rfl
  have e3 : (joinS outs spS).size + 1 ≤ 9223372036854775807 := by omega
  (try simp +decide -implicitDefEqProofs only [go_sem, g1])
  refine stk_pureW ⟨[(58, .sl false 1 (strRows outs))], AHeap.none⟩ (Weak.list _ (Sub.none _) ?_) (join_ok outs spS (by omega) (by omega)) fun v hv => ?_
  ·(try simp +decide -implicitDefEqProofs only [go_sem])
   exact hrow.fz (fun b _ => rfl)
  subst hv
  (try simp +decide -implicitDefEqProofs only [go_sem, e2, e3])
  refine aret_pure (.inr rfl) ?_; simp +decide only [retOf, tget, if_true, if_false, ↓reduceIte, List.map_cons, List.map_nil]
  unfold lnLine
  rw [houts]; rfl
end Go.Proofs.YtfaodacmdlnabaaGreatDoor.M
