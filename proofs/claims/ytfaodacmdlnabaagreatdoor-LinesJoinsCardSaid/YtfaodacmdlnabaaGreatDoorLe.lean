/-
 Lines: a step's line.
-/
import Derived.Test.YtfaodacmdlnabaaGreatDoorLd
namespace Go.Proofs.YtfaodacmdlnabaaGreatDoor.M
open Go.RowKit
set_option linter.unusedVariables false
set_option linter.unusedSimpArgs false
structure Step where
 dof : Int
 node : Int
 n : Int
 id : Str
 text : Str
 pol : Pol
def stepCells (s : Step) : List AVal := [.v (.int .i64 s.dof), .v (.int .i64 s.node), .v (.int .i64 s.n), .v (.string s.id), .v (.string s.text)] ++ polCells s.pol
def lnOnly (s : Step) : Bool := decide (s.id = ByteArray.empty) && (decide (s.text = ByteArray.empty) && decide (s.pol = pol0))
/-- A step's line; else it has none. -/
def lnOf (s : Step) : Option Str :=
 if s.dof = 1 then (if s.n = 0 ∧ s.pol = pol0 then lnLine [.str (wordS s.dof), .num s.node, .id s.id, .rest s.text] else none)
 else if s.dof = 2 then (if s.n = 0 ∧ s.text = ByteArray.empty ∧ s.pol = pol0 then lnLine [.str (wordS s.dof), .num s.node, .id s.id] else none)
 else if s.dof = 3 then (if rightP s.pol = true ∧ s.node = 0 ∧ s.n = 0 ∧ s.id = ByteArray.empty ∧ s.text = ByteArray.empty then lnLine [.str (wordS s.dof), .rest (textP s.pol)] else none)
 else if s.dof = 4 ∨ s.dof = 9 then (if lnOnly s = true ∧ s.n = 0 then lnLine [.str (wordS s.dof), .num s.node] else none)
 else if s.dof = 5 ∨ s.dof = 6 ∨ s.dof = 7 then (if lnOnly s = true ∧ s.node = 0 then lnLine [.str (wordS s.dof), .num s.n] else none)
 else if s.dof = 8 ∨ s.dof = 10 then (if lnOnly s = true then lnLine [.str (wordS s.dof), .num s.node, .num s.n] else none)
 else none
structure StepFits (s : Step) : Prop where
 id : s.id.size ≤ 100000000
 text : s.text.size ≤ 100000000
 pol : Fits s.pol
 polText : rightP s.pol = true → (textP s.pol).size ≤ 100000000
def LineR (o : Option Str) (v : AVal) : Prop := ∃ t, v = .tup [.v (.string t), .v (.bool o.isSome)] ∧ ∀ x, o = some x → t = x
theorem lineR_if {c : Prop} [Decidable c] {t : Str} {ok : Bool} (h : ok = true ↔ c) : LineR (if c then some t else none) (.tup [.v (.string t), .v (.bool ok)]) := by
 by_cases hc : c
 ·rw [if_pos hc, h.2 hc]; exact ⟨t, rfl, fun x hx => by cases hx; rfl⟩
 ·rw [if_neg hc]
  cases ok
  ·exact ⟨t, rfl, fun x hx => by cases hx⟩
  ·exact absurd (h.1 rfl) hc
theorem lineR_no {c : Prop} [Decidable c] {t : Str} : LineR (if c then none else none) (.tup [.v (.string t), .v (.bool false)]) := by
 rw [ite_self]; exact ⟨t, rfl, fun x hx => by cases hx⟩
theorem fitsL2 {a b : Part} (ha : a.Fits) (hb : b.Fits) : ∀ p ∈ [a, b], p.Fits := by
 intro p hp
 simp only [List.mem_cons, List.not_mem_nil, or_false] at hp
 rcases hp with rfl | rfl
 ·exact ha
 ·exact hb
theorem fitsL3 {a b c : Part} (ha : a.Fits) (hb : b.Fits) (hc : c.Fits) : ∀ p ∈ [a, b, c], p.Fits := by
 intro p hp
 simp only [List.mem_cons, List.not_mem_nil, or_false] at hp
 rcases hp with rfl | rfl | rfl
 ·exact ha
 ·exact hb
 ·exact hc
theorem fitsL4 {a b c d : Part} (ha : a.Fits) (hb : b.Fits) (hc : c.Fits) (hd : d.Fits) : ∀ p ∈ [a, b, c, d], p.Fits := by
 intro p hp
 simp only [List.mem_cons, List.not_mem_nil, or_false] at hp
 rcases hp with rfl | rfl | rfl | rfl
 ·exact ha
 ·exact hb
 ·exact hc
 ·exact hd
theorem word_most (d : Int) : (wordS d).size ≤ 7 := by
 unfold wordS
 repeat' split
 all_goals decide
def c_lnOf : AFn := ⟨1, 211, [2, 3],
 .seq (.ops [oe 1 (.box 38 (.tmp 0)),
   oq 2 (.mv (.const (.string ByteArray.empty))),
   oq 3 (.mv (.const (.bool false)))])
 (.seq (.ops [oq 20 (.fad 0 1 (.tmp 1)),
   oq 21 (.ld false 1 (.tmp 20)),
   oe 22 (.call 28 [(.tmp 21)]),
   oq 4 (.mv (.tmp 22))])
 (.seq (.ops [oq 23 (.fad 3 1 (.tmp 1)),
   oq 24 (.ld false 1 (.tmp 23)),
   oq 25 (.bin .eql .num (.tmp 24) (.const (.string ByteArray.empty))),
   oq 26 (.mv (.tmp 25)),
   og 27 26 true (.fad 4 1 (.tmp 1)),
   og 28 26 true (.ld false 1 (.tmp 27)),
   og 29 26 true (.bin .eql .num (.tmp 28) (.const (.string ByteArray.empty))),
   oq 30 (.pick (.tmp 26) (.tmp 29) (.const (.bool false))),
   oq 31 (.mv (.tmp 30)),
   og 32 31 true (.fad 5 9 (.tmp 1)),
   og 33 31 true (.ld true 9 (.tmp 32)),
   oh 34 31 true (.call 29 [(.tmp 33)]),
   oq 35 (.pick (.tmp 31) (.tmp 34) (.const (.bool false))),
   oq 5 (.mv (.tmp 35))])
 (.seq (.seq (.ops [oq 36 (.fad 0 1 (.tmp 1)),
   oq 37 (.ld false 1 (.tmp 36))])
 (.block 0 (.seq (.ops [oq 39 (.bin .eql .num (.tmp 37) (.const (.int .i64 1))),
    oq 38 (.mv (.tmp 39))])
  (.cond (.tmp 38)
   (.seq (.ops [oq 41 (.mv (.tmp 4)),
     oq 42 (.mki 9 (.tmp 41)),
     oq 43 (.fad 1 1 (.tmp 1)),
     oq 44 (.ld false 1 (.tmp 43)),
     oq 45 (.mki 3 (.tmp 44)),
     oq 46 (.fad 3 1 (.tmp 1)),
     oq 47 (.ld false 1 (.tmp 46)),
     oq 48 (.mki 66 (.tmp 47)),
     oq 49 (.fad 4 1 (.tmp 1)),
     oq 50 (.ld false 1 (.tmp 49)),
     oq 51 (.mki 62 (.tmp 50)),
     oe 52 (.bsl 20 1 [(.tmp 42), (.tmp 45), (.tmp 48), (.tmp 51)]),
     oe 53 (.call 27 [(.tmp 52)]),
     oq 40 (.mv (.tmp 53)),
     oq 54 (.ext (.tmp 40) 0),
     oq 55 (.ext (.tmp 40) 1),
     oq 6 (.mv (.tmp 54)),
     oq 7 (.mv (.tmp 55))])
   (.seq (.ops [oq 56 (.mv (.tmp 6)),
     oq 57 (.mv (.tmp 7)),
     oq 58 (.mv (.tmp 57)),
     og 59 58 true (.fad 2 1 (.tmp 1)),
     og 60 58 true (.ld false 1 (.tmp 59)),
     og 61 58 true (.bin .eql .num (.tmp 60) (.const (.int .i64 0))),
     oq 62 (.pick (.tmp 58) (.tmp 61) (.const (.bool false))),
     oq 63 (.mv (.tmp 62)),
     og 64 63 true (.fad 5 9 (.tmp 1)),
     og 65 63 true (.ld true 9 (.tmp 64)),
     oh 66 63 true (.call 29 [(.tmp 65)]),
     oq 67 (.pick (.tmp 63) (.tmp 66) (.const (.bool false))),
     oq 2 (.mv (.tmp 56)),
     oq 3 (.mv (.tmp 67))])
   (.ret)))
   (.seq (.ops [oq 69 (.bin .eql .num (.tmp 37) (.const (.int .i64 2))),
     oq 68 (.mv (.tmp 69))])
   (.cond (.tmp 68)
    (.seq (.ops [oq 71 (.mv (.tmp 4)),
      oq 72 (.mki 9 (.tmp 71)),
      oq 73 (.fad 1 1 (.tmp 1)),
      oq 74 (.ld false 1 (.tmp 73)),
      oq 75 (.mki 3 (.tmp 74)),
      oq 76 (.fad 3 1 (.tmp 1)),
      oq 77 (.ld false 1 (.tmp 76)),
      oq 78 (.mki 66 (.tmp 77)),
      oe 79 (.bsl 20 1 [(.tmp 72), (.tmp 75), (.tmp 78)]),
      oe 80 (.call 27 [(.tmp 79)]),
      oq 70 (.mv (.tmp 80)),
      oq 81 (.ext (.tmp 70) 0),
      oq 82 (.ext (.tmp 70) 1),
      oq 8 (.mv (.tmp 81)),
      oq 9 (.mv (.tmp 82))])
    (.seq (.ops [oq 83 (.mv (.tmp 8)),
      oq 84 (.mv (.tmp 9)),
      oq 85 (.mv (.tmp 84)),
      og 86 85 true (.fad 2 1 (.tmp 1)),
      og 87 85 true (.ld false 1 (.tmp 86)),
      og 88 85 true (.bin .eql .num (.tmp 87) (.const (.int .i64 0))),
      oq 89 (.pick (.tmp 85) (.tmp 88) (.const (.bool false))),
      oq 90 (.mv (.tmp 89)),
      og 91 90 true (.fad 4 1 (.tmp 1)),
      og 92 90 true (.ld false 1 (.tmp 91)),
      og 93 90 true (.bin .eql .num (.tmp 92) (.const (.string ByteArray.empty))),
      oq 94 (.pick (.tmp 90) (.tmp 93) (.const (.bool false))),
      oq 95 (.mv (.tmp 94)),
      og 96 95 true (.fad 5 9 (.tmp 1)),
      og 97 95 true (.ld true 9 (.tmp 96)),
      oh 98 95 true (.call 29 [(.tmp 97)]),
      oq 99 (.pick (.tmp 95) (.tmp 98) (.const (.bool false))),
      oq 2 (.mv (.tmp 83)),
      oq 3 (.mv (.tmp 99))])
    (.ret)))
    (.seq (.ops [oq 101 (.bin .eql .num (.tmp 37) (.const (.int .i64 3))),
      oq 100 (.mv (.tmp 101))])
    (.cond (.tmp 100)
     (.seq (.ops [oq 103 (.fad 5 9 (.tmp 1)),
       oq 104 (.ld true 9 (.tmp 103)),
       oe 105 (.call 30 [(.tmp 104)]),
       oq 102 (.mv (.tmp 105)),
       oq 106 (.ext (.tmp 102) 0),
       oq 107 (.ext (.tmp 102) 1),
       oq 10 (.mv (.tmp 106)),
       oq 11 (.mv (.tmp 107))])
     (.seq (.ops [oq 109 (.mv (.tmp 4)),
       oq 110 (.mki 9 (.tmp 109)),
       oq 111 (.mv (.tmp 10)),
       oq 112 (.mki 62 (.tmp 111)),
       oe 113 (.bsl 20 1 [(.tmp 110), (.tmp 112)]),
       oe 114 (.call 27 [(.tmp 113)]),
       oq 108 (.mv (.tmp 114)),
       oq 115 (.ext (.tmp 108) 0),
       oq 116 (.ext (.tmp 108) 1),
       oq 12 (.mv (.tmp 115)),
       oq 13 (.mv (.tmp 116))])
     (.seq (.ops [oq 117 (.mv (.tmp 12)),
       oq 118 (.mv (.tmp 13)),
       oq 119 (.mv (.tmp 118)),
       og 120 119 true (.mv (.tmp 11)),
       og 121 119 true (.bin .eql .num (.tmp 120) (.const (.int .i64 0))),
       oq 122 (.pick (.tmp 119) (.tmp 121) (.const (.bool false))),
       oq 123 (.mv (.tmp 122)),
       og 124 123 true (.fad 1 1 (.tmp 1)),
       og 125 123 true (.ld false 1 (.tmp 124)),
       og 126 123 true (.bin .eql .num (.tmp 125) (.const (.int .i64 0))),
       oq 127 (.pick (.tmp 123) (.tmp 126) (.const (.bool false))),
       oq 128 (.mv (.tmp 127)),
       og 129 128 true (.fad 2 1 (.tmp 1)),
       og 130 128 true (.ld false 1 (.tmp 129)),
       og 131 128 true (.bin .eql .num (.tmp 130) (.const (.int .i64 0))),
       oq 132 (.pick (.tmp 128) (.tmp 131) (.const (.bool false))),
       oq 133 (.mv (.tmp 132)),
       og 134 133 true (.fad 3 1 (.tmp 1)),
       og 135 133 true (.ld false 1 (.tmp 134)),
       og 136 133 true (.bin .eql .num (.tmp 135) (.const (.string ByteArray.empty))),
       oq 137 (.pick (.tmp 133) (.tmp 136) (.const (.bool false))),
       oq 138 (.mv (.tmp 137)),
       og 139 138 true (.fad 4 1 (.tmp 1)),
       og 140 138 true (.ld false 1 (.tmp 139)),
       og 141 138 true (.bin .eql .num (.tmp 140) (.const (.string ByteArray.empty))),
       oq 142 (.pick (.tmp 138) (.tmp 141) (.const (.bool false))),
       oq 2 (.mv (.tmp 117)),
       oq 3 (.mv (.tmp 142))])
     (.ret))))
     (.seq (.seq (.ops [oq 144 (.bin .eql .num (.tmp 37) (.const (.int .i64 4))),
       oq 143 (.mv (.tmp 144))])
     (.cond (.tmp 143)
      (.skip)
      (.ops [oq 145 (.bin .eql .num (.tmp 37) (.const (.int .i64 9))),
        oq 143 (.mv (.tmp 145))])))
     (.cond (.tmp 143)
      (.seq (.ops [oq 147 (.mv (.tmp 4)),
        oq 148 (.mki 9 (.tmp 147)),
        oq 149 (.fad 1 1 (.tmp 1)),
        oq 150 (.ld false 1 (.tmp 149)),
        oq 151 (.mki 3 (.tmp 150)),
        oe 152 (.bsl 20 1 [(.tmp 148), (.tmp 151)]),
        oe 153 (.call 27 [(.tmp 152)]),
        oq 146 (.mv (.tmp 153)),
        oq 154 (.ext (.tmp 146) 0),
        oq 155 (.ext (.tmp 146) 1),
        oq 14 (.mv (.tmp 154)),
        oq 15 (.mv (.tmp 155))])
      (.seq (.ops [oq 156 (.mv (.tmp 14)),
        oq 157 (.mv (.tmp 15)),
        oq 158 (.mv (.tmp 157)),
        og 159 158 true (.mv (.tmp 5)),
        oq 160 (.pick (.tmp 158) (.tmp 159) (.const (.bool false))),
        oq 161 (.mv (.tmp 160)),
        og 162 161 true (.fad 2 1 (.tmp 1)),
        og 163 161 true (.ld false 1 (.tmp 162)),
        og 164 161 true (.bin .eql .num (.tmp 163) (.const (.int .i64 0))),
        oq 165 (.pick (.tmp 161) (.tmp 164) (.const (.bool false))),
        oq 2 (.mv (.tmp 156)),
        oq 3 (.mv (.tmp 165))])
      (.ret)))
      (.seq (.seq (.ops [oq 167 (.bin .eql .num (.tmp 37) (.const (.int .i64 5))),
        oq 166 (.mv (.tmp 167))])
      (.cond (.tmp 166)
       (.skip)
       (.seq (.ops [oq 168 (.bin .eql .num (.tmp 37) (.const (.int .i64 6))),
         oq 166 (.mv (.tmp 168))])
       (.cond (.tmp 166)
        (.skip)
        (.ops [oq 169 (.bin .eql .num (.tmp 37) (.const (.int .i64 7))),
          oq 166 (.mv (.tmp 169))])))))
      (.cond (.tmp 166)
       (.seq (.ops [oq 171 (.mv (.tmp 4)),
         oq 172 (.mki 9 (.tmp 171)),
         oq 173 (.fad 2 1 (.tmp 1)),
         oq 174 (.ld false 1 (.tmp 173)),
         oq 175 (.mki 3 (.tmp 174)),
         oe 176 (.bsl 20 1 [(.tmp 172), (.tmp 175)]),
         oe 177 (.call 27 [(.tmp 176)]),
         oq 170 (.mv (.tmp 177)),
         oq 178 (.ext (.tmp 170) 0),
         oq 179 (.ext (.tmp 170) 1),
         oq 16 (.mv (.tmp 178)),
         oq 17 (.mv (.tmp 179))])
       (.seq (.ops [oq 180 (.mv (.tmp 16)),
         oq 181 (.mv (.tmp 17)),
         oq 182 (.mv (.tmp 181)),
         og 183 182 true (.mv (.tmp 5)),
         oq 184 (.pick (.tmp 182) (.tmp 183) (.const (.bool false))),
         oq 185 (.mv (.tmp 184)),
         og 186 185 true (.fad 1 1 (.tmp 1)),
         og 187 185 true (.ld false 1 (.tmp 186)),
         og 188 185 true (.bin .eql .num (.tmp 187) (.const (.int .i64 0))),
         oq 189 (.pick (.tmp 185) (.tmp 188) (.const (.bool false))),
         oq 2 (.mv (.tmp 180)),
         oq 3 (.mv (.tmp 189))])
       (.ret)))
       (.seq (.seq (.ops [oq 191 (.bin .eql .num (.tmp 37) (.const (.int .i64 8))),
         oq 190 (.mv (.tmp 191))])
       (.cond (.tmp 190)
        (.skip)
        (.ops [oq 192 (.bin .eql .num (.tmp 37) (.const (.int .i64 10))),
          oq 190 (.mv (.tmp 192))])))
       (.cond (.tmp 190)
        (.seq (.ops [oq 194 (.mv (.tmp 4)),
          oq 195 (.mki 9 (.tmp 194)),
          oq 196 (.fad 1 1 (.tmp 1)),
          oq 197 (.ld false 1 (.tmp 196)),
          oq 198 (.mki 3 (.tmp 197)),
          oq 199 (.fad 2 1 (.tmp 1)),
          oq 200 (.ld false 1 (.tmp 199)),
          oq 201 (.mki 3 (.tmp 200)),
          oe 202 (.bsl 20 1 [(.tmp 195), (.tmp 198), (.tmp 201)]),
          oe 203 (.call 27 [(.tmp 202)]),
          oq 193 (.mv (.tmp 203)),
          oq 204 (.ext (.tmp 193) 0),
          oq 205 (.ext (.tmp 193) 1),
          oq 18 (.mv (.tmp 204)),
          oq 19 (.mv (.tmp 205))])
        (.seq (.ops [oq 206 (.mv (.tmp 18)),
          oq 207 (.mv (.tmp 19)),
          oq 208 (.mv (.tmp 207)),
          og 209 208 true (.mv (.tmp 5)),
          oq 210 (.pick (.tmp 208) (.tmp 209) (.const (.bool false))),
          oq 2 (.mv (.tmp 206)),
          oq 3 (.mv (.tmp 210))])
        (.ret)))
        (.skip)))))))))))))))
 (.seq (.ops [oq 2 (.mv (.const (.string ByteArray.empty))),
   oq 3 (.mv (.const (.bool false)))])
 (.ret))))), []⟩
theorem k_lnOf : compF Tryz.prog 17 = some c_lnOf := by kernel_rfl
set_option maxHeartbeats 4000000 in
theorem lineOf_ok {W : World} (L : Laid W) (s : Step) (F : StepFits s) : ACalls Tryz.prog W 17 [.agg (stepCells s)] AHeap.none fun v _ => LineR (lnOf s) v := by
 refine fn_run follows k_lnOf rfl ?_
 simp only [oq, og, oe, oh, on, c_lnOf, aretC_nil, List.zipIdx_cons, List.zipIdx_nil, List.map_cons, List.map_nil, Nat.zero_add]
 (try simp +decide -implicitDefEqProofs only [go_sem, stepCells, polCells])
 rw [stk_box]
 refine ⟨by rfl, fun b hb => ?_⟩
 (try simp +decide -implicitDefEqProofs only [go_sem, stepCells, polCells, lay, oneOr, List.take_succ_cons, List.take_zero, List.drop_succ_cons, List.drop_zero, List.nil_append, List.cons_append, Option.getD_some, Nat.reduceAdd, Nat.reduceLeDiff, List.append_nil, and_self, List.all_cons, List.all_nil])
 refine stk_pureW ⟨[(21, .v (.int .i64 s.dof)), (1, .pl (stepCells s))], AHeap.none⟩ (Weak.list _ (Sub.none _) ?_) (word_okL s.dof) fun v hv => ?_
 ·(try simp +decide -implicitDefEqProofs only [go_sem, polCells, FZ_rfl])
  exact FZ.cellsR (hp_self _ _ _) rfl
 subst hv
 rw [stk_q]
 refine ⟨by (try simp +decide -implicitDefEqProofs only [go_sem]), ?_⟩
 rw [stk_ops_nil, stk_seq]
 refine stk_cut (fun s3 => tget s3.tm 4 = .v (.string (wordS s.dof)) ∧ tget s3.tm 5 = .v (.bool (lnOnly s)) ∧ tget s3.tm 1 = .pl (stepCells s) ∧ s3.H = AHeap.none) ?_ ?_
 ·by_cases h1 : s.id = ByteArray.empty
  case neg =>
   have d1 := decide_eq_false h1
   have ho : lnOnly s = false := by unfold lnOnly; rw [d1]; rfl
   (try simp +decide -implicitDefEqProofs only [go_sem, stepCells, polCells, d1, ho, lay, oneOr, List.take_succ_cons, List.take_zero, List.drop_succ_cons, List.drop_zero, List.nil_append, List.cons_append, Option.getD_some, Nat.reduceAdd, Nat.reduceLeDiff, List.append_nil, and_self, List.all_cons, List.all_nil])
  have d1 := decide_eq_true h1
  by_cases h2 : s.text = ByteArray.empty
  case neg =>
   have d2 := decide_eq_false h2
   have ho : lnOnly s = false := by unfold lnOnly; rw [d1, d2]; rfl
   (try simp +decide -implicitDefEqProofs only [go_sem, stepCells, polCells, d1, d2, ho, lay, oneOr, List.take_succ_cons, List.take_zero, List.drop_succ_cons, List.drop_zero, List.nil_append, List.cons_append, Option.getD_some, Nat.reduceAdd, Nat.reduceLeDiff, List.append_nil, and_self, List.all_cons, List.all_nil])
  have d2 := decide_eq_true h2
  have ho : lnOnly s = decide (s.pol = pol0) := by unfold lnOnly; rw [d1, d2]; rfl
  (try simp +decide -implicitDefEqProofs only [go_sem, stepCells, polCells, d1, d2, ho, lay, oneOr, List.take_succ_cons, List.take_zero, List.drop_succ_cons, List.drop_zero, List.nil_append, List.cons_append, Option.getD_some, Nat.reduceAdd, Nat.reduceLeDiff, List.append_nil, and_self, List.all_cons, List.all_nil])
  refine stk_pure (lnEmpty_ok s.pol F.pol) fun v hv => ?_
  subst hv
  (try simp +decide -implicitDefEqProofs only [go_sem, stepCells, polCells, d1, d2, ho, lay, oneOr, List.take_succ_cons, List.take_zero, List.drop_succ_cons, List.drop_zero, List.nil_append, List.cons_append, Option.getD_some, Nat.reduceAdd, Nat.reduceLeDiff, List.append_nil, and_self, List.all_cons, List.all_nil])
 rintro ⟨tm, H2⟩ ⟨t4, t5, t1, hH⟩
 dsimp only at t4 t5 t1 hH
 subst hH
 have hw := word_most s.dof
 unfold lnOf
 generalize wordS s.dof = w at t4 hw ⊢
 have hwz : w.size ≤ 100000000 := by omega
 have F1 := F.id
 have F2 := F.text
 by_cases hd : s.dof = 1
 case pos =>
  rw [if_pos hd]
  (try simp +decide -implicitDefEqProofs only [go_sem, t1, t4, t5, hd, stepCells, polCells, lay, oneOr, List.take_succ_cons, List.take_zero, List.drop_succ_cons, List.drop_zero, List.nil_append, List.cons_append, Option.getD_some, Nat.reduceAdd, Nat.reduceLeDiff, List.append_nil, and_self, List.all_cons, List.all_nil])
  refine stk_pure (line_okL L true [.str w, .num s.node, .id s.id, .rest s.text] (by simp) (fitsL4 hwz trivial F1 F2)) fun v hv => ?_
  subst hv
  cases hl : lnLine [.str w, .num s.node, .id s.id, .rest s.text] with
  | none =>
   unfold optR
   (try simp +decide -implicitDefEqProofs only [go_sem, t1, t4, t5, hd, stepCells, polCells, lay, oneOr, List.take_succ_cons, List.take_zero, List.drop_succ_cons, List.drop_zero, List.nil_append, List.cons_append, Option.getD_some, Nat.reduceAdd, Nat.reduceLeDiff, List.append_nil, and_self, List.all_cons, List.all_nil])
   refine aret_pure (.inr rfl) ?_; simp +decide only [retOf, tget, if_true, if_false, ↓reduceIte, List.map_cons, List.map_nil]
   exact lineR_no
  | some t =>
   unfold optR
   by_cases q1 : s.n = 0
   case neg =>
    have e1 := decide_eq_false q1
    (try simp +decide -implicitDefEqProofs only [go_sem, t1, t4, t5, hd, stepCells, polCells, e1, lay, oneOr, List.take_succ_cons, List.take_zero, List.drop_succ_cons, List.drop_zero, List.nil_append, List.cons_append, Option.getD_some, Nat.reduceAdd, Nat.reduceLeDiff, List.append_nil, and_self, List.all_cons, List.all_nil])
    refine aret_pure (.inr rfl) ?_; simp +decide only [retOf, tget, if_true, if_false, ↓reduceIte, List.map_cons, List.map_nil]
    exact lineR_if (by simp [q1])
   have e1 := decide_eq_true q1
   (try simp +decide -implicitDefEqProofs only [go_sem, t1, t4, t5, hd, stepCells, polCells, e1, lay, oneOr, List.take_succ_cons, List.take_zero, List.drop_succ_cons, List.drop_zero, List.nil_append, List.cons_append, Option.getD_some, Nat.reduceAdd, Nat.reduceLeDiff, List.append_nil, and_self, List.all_cons, List.all_nil])
   refine stk_pure (lnEmpty_ok s.pol F.pol) fun v hv => ?_
   subst hv
   (try simp +decide -implicitDefEqProofs only [go_sem, t1, t4, t5, hd, stepCells, polCells, e1, lay, oneOr, List.take_succ_cons, List.take_zero, List.drop_succ_cons, List.drop_zero, List.nil_append, List.cons_append, Option.getD_some, Nat.reduceAdd, Nat.reduceLeDiff, List.append_nil, and_self, List.all_cons, List.all_nil])
   refine aret_pure (.inr rfl) ?_; simp +decide only [retOf, tget, if_true, if_false, ↓reduceIte, List.map_cons, List.map_nil]
   exact lineR_if (by simp [q1])
 by_cases hd : s.dof = 2
 case pos =>
  rw [if_neg (by omega), if_pos hd]
  (try simp +decide -implicitDefEqProofs only [go_sem, t1, t4, t5, hd, stepCells, polCells, lay, oneOr, List.take_succ_cons, List.take_zero, List.drop_succ_cons, List.drop_zero, List.nil_append, List.cons_append, Option.getD_some, Nat.reduceAdd, Nat.reduceLeDiff, List.append_nil, and_self, List.all_cons, List.all_nil])
  refine stk_pure (line_okL L true [.str w, .num s.node, .id s.id] (by simp) (fitsL3 hwz trivial F1)) fun v hv => ?_
  subst hv
  cases hl : lnLine [.str w, .num s.node, .id s.id] with
  | none =>
   unfold optR
   (try simp +decide -implicitDefEqProofs only [go_sem, t1, t4, t5, hd, stepCells, polCells, lay, oneOr, List.take_succ_cons, List.take_zero, List.drop_succ_cons, List.drop_zero, List.nil_append, List.cons_append, Option.getD_some, Nat.reduceAdd, Nat.reduceLeDiff, List.append_nil, and_self, List.all_cons, List.all_nil])
   refine aret_pure (.inr rfl) ?_; simp +decide only [retOf, tget, if_true, if_false, ↓reduceIte, List.map_cons, List.map_nil]
   exact lineR_no
  | some t =>
   unfold optR
   by_cases q1 : s.n = 0
   case neg =>
    have e1 := decide_eq_false q1
    (try simp +decide -implicitDefEqProofs only [go_sem, t1, t4, t5, hd, stepCells, polCells, e1, lay, oneOr, List.take_succ_cons, List.take_zero, List.drop_succ_cons, List.drop_zero, List.nil_append, List.cons_append, Option.getD_some, Nat.reduceAdd, Nat.reduceLeDiff, List.append_nil, and_self, List.all_cons, List.all_nil])
    refine aret_pure (.inr rfl) ?_; simp +decide only [retOf, tget, if_true, if_false, ↓reduceIte, List.map_cons, List.map_nil]
    exact lineR_if (by simp [q1])
   have e1 := decide_eq_true q1
   by_cases q2 : s.text = ByteArray.empty
   case neg =>
    have e2 := decide_eq_false q2
    (try simp +decide -implicitDefEqProofs only [go_sem, t1, t4, t5, hd, stepCells, polCells, e1, e2, lay, oneOr, List.take_succ_cons, List.take_zero, List.drop_succ_cons, List.drop_zero, List.nil_append, List.cons_append, Option.getD_some, Nat.reduceAdd, Nat.reduceLeDiff, List.append_nil, and_self, List.all_cons, List.all_nil])
    refine aret_pure (.inr rfl) ?_; simp +decide only [retOf, tget, if_true, if_false, ↓reduceIte, List.map_cons, List.map_nil]
    exact lineR_if (by simp [q2])
   have e2 := decide_eq_true q2
   (try simp +decide -implicitDefEqProofs only [go_sem, t1, t4, t5, hd, stepCells, polCells, e1, e2, lay, oneOr, List.take_succ_cons, List.take_zero, List.drop_succ_cons, List.drop_zero, List.nil_append, List.cons_append, Option.getD_some, Nat.reduceAdd, Nat.reduceLeDiff, List.append_nil, and_self, List.all_cons, List.all_nil])
   refine stk_pure (lnEmpty_ok s.pol F.pol) fun v hv => ?_
   subst hv
   (try simp +decide -implicitDefEqProofs only [go_sem, t1, t4, t5, hd, stepCells, polCells, e1, e2, lay, oneOr, List.take_succ_cons, List.take_zero, List.drop_succ_cons, List.drop_zero, List.nil_append, List.cons_append, Option.getD_some, Nat.reduceAdd, Nat.reduceLeDiff, List.append_nil, and_self, List.all_cons, List.all_nil])
   refine aret_pure (.inr rfl) ?_; simp +decide only [retOf, tget, if_true, if_false, ↓reduceIte, List.map_cons, List.map_nil]
   exact lineR_if (by simp [q1, q2])
 by_cases hd : s.dof = 3
 case pos =>
  rw [if_neg (by omega), if_neg (by omega), if_pos hd]
  (try simp +decide -implicitDefEqProofs only [go_sem, t1, t4, t5, hd, stepCells, polCells, lay, oneOr, List.take_succ_cons, List.take_zero, List.drop_succ_cons, List.drop_zero, List.nil_append, List.cons_append, Option.getD_some, Nat.reduceAdd, Nat.reduceLeDiff, List.append_nil, and_self, List.all_cons, List.all_nil])
  refine stk_pure (text_ok L s.pol F.pol) fun v hv => ?_
  subst hv
  unfold textR
  cases hr : rightP s.pol
  ·rw [if_neg (by simp), if_neg (by simp)]
   (try simp +decide -implicitDefEqProofs only [go_sem, t1, t4, t5, hd, stepCells, polCells, lay, oneOr, List.take_succ_cons, List.take_zero, List.drop_succ_cons, List.drop_zero, List.nil_append, List.cons_append, Option.getD_some, Nat.reduceAdd, Nat.reduceLeDiff, List.append_nil, and_self, List.all_cons, List.all_nil])
   refine stk_pure (line_okL L true [.str w, .rest ByteArray.empty] (by simp) (fitsL2 hwz (Nat.zero_le _))) fun v hv => ?_
   subst hv
   cases hl : lnLine [.str w, .rest ByteArray.empty] with
   | none =>
    unfold optR
    (try simp +decide -implicitDefEqProofs only [go_sem, t1, t4, t5, hd, stepCells, polCells, lay, oneOr, List.take_succ_cons, List.take_zero, List.drop_succ_cons, List.drop_zero, List.nil_append, List.cons_append, Option.getD_some, Nat.reduceAdd, Nat.reduceLeDiff, List.append_nil, and_self, List.all_cons, List.all_nil])
    refine aret_pure (.inr rfl) ?_; simp +decide only [retOf, tget, if_true, if_false, ↓reduceIte, List.map_cons, List.map_nil]
    exact ⟨_, rfl, fun x hx => by cases hx⟩
   | some t =>
    unfold optR
    (try simp +decide -implicitDefEqProofs only [go_sem, t1, t4, t5, hd, stepCells, polCells, lay, oneOr, List.take_succ_cons, List.take_zero, List.drop_succ_cons, List.drop_zero, List.nil_append, List.cons_append, Option.getD_some, Nat.reduceAdd, Nat.reduceLeDiff, List.append_nil, and_self, List.all_cons, List.all_nil])
    refine aret_pure (.inr rfl) ?_; simp +decide only [retOf, tget, if_true, if_false, ↓reduceIte, List.map_cons, List.map_nil]
    exact ⟨_, rfl, fun x hx => by cases hx⟩
  ·rw [if_pos rfl]
   (try simp +decide -implicitDefEqProofs only [go_sem, t1, t4, t5, hd, stepCells, polCells, lay, oneOr, List.take_succ_cons, List.take_zero, List.drop_succ_cons, List.drop_zero, List.nil_append, List.cons_append, Option.getD_some, Nat.reduceAdd, Nat.reduceLeDiff, List.append_nil, and_self, List.all_cons, List.all_nil])
   have F3 := F.polText hr
   refine stk_pure (line_okL L true [.str w, .rest (textP s.pol)] (by simp) (fitsL2 hwz F3)) fun v hv => ?_
   subst hv
   cases hl : lnLine [.str w, .rest (textP s.pol)] with
   | none =>
    unfold optR
    (try simp +decide -implicitDefEqProofs only [go_sem, t1, t4, t5, hd, stepCells, polCells, lay, oneOr, List.take_succ_cons, List.take_zero, List.drop_succ_cons, List.drop_zero, List.nil_append, List.cons_append, Option.getD_some, Nat.reduceAdd, Nat.reduceLeDiff, List.append_nil, and_self, List.all_cons, List.all_nil])
    refine aret_pure (.inr rfl) ?_; simp +decide only [retOf, tget, if_true, if_false, ↓reduceIte, List.map_cons, List.map_nil]
    exact lineR_no
   | some t =>
    unfold optR
    by_cases q1 : s.node = 0
    case neg =>
     have e1 := decide_eq_false q1
     (try simp +decide -implicitDefEqProofs only [go_sem, t1, t4, t5, hd, stepCells, polCells, e1, lay, oneOr, List.take_succ_cons, List.take_zero, List.drop_succ_cons, List.drop_zero, List.nil_append, List.cons_append, Option.getD_some, Nat.reduceAdd, Nat.reduceLeDiff, List.append_nil, and_self, List.all_cons, List.all_nil])
     refine aret_pure (.inr rfl) ?_; simp +decide only [retOf, tget, if_true, if_false, ↓reduceIte, List.map_cons, List.map_nil]
     exact lineR_if (by simp [q1])
    have e1 := decide_eq_true q1
    by_cases q2 : s.n = 0
    case neg =>
     have e2 := decide_eq_false q2
     (try simp +decide -implicitDefEqProofs only [go_sem, t1, t4, t5, hd, stepCells, polCells, e1, e2, lay, oneOr, List.take_succ_cons, List.take_zero, List.drop_succ_cons, List.drop_zero, List.nil_append, List.cons_append, Option.getD_some, Nat.reduceAdd, Nat.reduceLeDiff, List.append_nil, and_self, List.all_cons, List.all_nil])
     refine aret_pure (.inr rfl) ?_; simp +decide only [retOf, tget, if_true, if_false, ↓reduceIte, List.map_cons, List.map_nil]
     exact lineR_if (by simp [q2])
    have e2 := decide_eq_true q2
    by_cases q3 : s.id = ByteArray.empty
    case neg =>
     have e3 := decide_eq_false q3
     (try simp +decide -implicitDefEqProofs only [go_sem, t1, t4, t5, hd, stepCells, polCells, e1, e2, e3, lay, oneOr, List.take_succ_cons, List.take_zero, List.drop_succ_cons, List.drop_zero, List.nil_append, List.cons_append, Option.getD_some, Nat.reduceAdd, Nat.reduceLeDiff, List.append_nil, and_self, List.all_cons, List.all_nil])
     refine aret_pure (.inr rfl) ?_; simp +decide only [retOf, tget, if_true, if_false, ↓reduceIte, List.map_cons, List.map_nil]
     exact lineR_if (by simp [q3])
    have e3 := decide_eq_true q3
    (try simp +decide -implicitDefEqProofs only [go_sem, t1, t4, t5, hd, stepCells, polCells, e1, e2, e3, lay, oneOr, List.take_succ_cons, List.take_zero, List.drop_succ_cons, List.drop_zero, List.nil_append, List.cons_append, Option.getD_some, Nat.reduceAdd, Nat.reduceLeDiff, List.append_nil, and_self, List.all_cons, List.all_nil])
    refine aret_pure (.inr rfl) ?_; simp +decide only [retOf, tget, if_true, if_false, ↓reduceIte, List.map_cons, List.map_nil]
    exact lineR_if (by simp [q1, q2, q3])
 by_cases hd : s.dof = 4
 case pos =>
  rw [if_neg (by omega), if_neg (by omega), if_neg (by omega), if_pos (by omega)]
  (try simp +decide -implicitDefEqProofs only [go_sem, t1, t4, t5, hd, stepCells, polCells, lay, oneOr, List.take_succ_cons, List.take_zero, List.drop_succ_cons, List.drop_zero, List.nil_append, List.cons_append, Option.getD_some, Nat.reduceAdd, Nat.reduceLeDiff, List.append_nil, and_self, List.all_cons, List.all_nil])
  refine stk_pure (line_okL L true [.str w, .num s.node] (by simp) (fitsL2 hwz trivial)) fun v hv => ?_
  subst hv
  cases hl : lnLine [.str w, .num s.node] with
  | none =>
   unfold optR
   (try simp +decide -implicitDefEqProofs only [go_sem, t1, t4, t5, hd, stepCells, polCells, lay, oneOr, List.take_succ_cons, List.take_zero, List.drop_succ_cons, List.drop_zero, List.nil_append, List.cons_append, Option.getD_some, Nat.reduceAdd, Nat.reduceLeDiff, List.append_nil, and_self, List.all_cons, List.all_nil])
   refine aret_pure (.inr rfl) ?_; simp +decide only [retOf, tget, if_true, if_false, ↓reduceIte, List.map_cons, List.map_nil]
   exact lineR_no
  | some t =>
   unfold optR
   generalize lnOnly s = o at t5 ⊢
   cases o
   ·(try simp +decide -implicitDefEqProofs only [go_sem, t1, t4, t5, hd, stepCells, polCells, lay, oneOr, List.take_succ_cons, List.take_zero, List.drop_succ_cons, List.drop_zero, List.nil_append, List.cons_append, Option.getD_some, Nat.reduceAdd, Nat.reduceLeDiff, List.append_nil, and_self, List.all_cons, List.all_nil])
    refine aret_pure (.inr rfl) ?_; simp +decide only [retOf, tget, if_true, if_false, ↓reduceIte, List.map_cons, List.map_nil]
    first | exact lineR_if (by simp) | exact ⟨_, rfl, fun x hx => by cases hx; rfl⟩ | exact ⟨_, rfl, fun x hx => by cases hx⟩
   ·(try simp +decide -implicitDefEqProofs only [go_sem, t1, t4, t5, hd, stepCells, polCells, lay, oneOr, List.take_succ_cons, List.take_zero, List.drop_succ_cons, List.drop_zero, List.nil_append, List.cons_append, Option.getD_some, Nat.reduceAdd, Nat.reduceLeDiff, List.append_nil, and_self, List.all_cons, List.all_nil])
    refine aret_pure (.inr rfl) ?_; simp +decide only [retOf, tget, if_true, if_false, ↓reduceIte, List.map_cons, List.map_nil]
    first | exact lineR_if (by simp) | exact ⟨_, rfl, fun x hx => by cases hx; rfl⟩ | exact ⟨_, rfl, fun x hx => by cases hx⟩
 by_cases hd : s.dof = 9
 case pos =>
  rw [if_neg (by omega), if_neg (by omega), if_neg (by omega), if_pos (by omega)]
  (try simp +decide -implicitDefEqProofs only [go_sem, t1, t4, t5, hd, stepCells, polCells, lay, oneOr, List.take_succ_cons, List.take_zero, List.drop_succ_cons, List.drop_zero, List.nil_append, List.cons_append, Option.getD_some, Nat.reduceAdd, Nat.reduceLeDiff, List.append_nil, and_self, List.all_cons, List.all_nil])
  refine stk_pure (line_okL L true [.str w, .num s.node] (by simp) (fitsL2 hwz trivial)) fun v hv => ?_
  subst hv
  cases hl : lnLine [.str w, .num s.node] with
  | none =>
   unfold optR
   (try simp +decide -implicitDefEqProofs only [go_sem, t1, t4, t5, hd, stepCells, polCells, lay, oneOr, List.take_succ_cons, List.take_zero, List.drop_succ_cons, List.drop_zero, List.nil_append, List.cons_append, Option.getD_some, Nat.reduceAdd, Nat.reduceLeDiff, List.append_nil, and_self, List.all_cons, List.all_nil])
   refine aret_pure (.inr rfl) ?_; simp +decide only [retOf, tget, if_true, if_false, ↓reduceIte, List.map_cons, List.map_nil]
   exact lineR_no
  | some t =>
   unfold optR
   generalize lnOnly s = o at t5 ⊢
   cases o
   ·(try simp +decide -implicitDefEqProofs only [go_sem, t1, t4, t5, hd, stepCells, polCells, lay, oneOr, List.take_succ_cons, List.take_zero, List.drop_succ_cons, List.drop_zero, List.nil_append, List.cons_append, Option.getD_some, Nat.reduceAdd, Nat.reduceLeDiff, List.append_nil, and_self, List.all_cons, List.all_nil])
    refine aret_pure (.inr rfl) ?_; simp +decide only [retOf, tget, if_true, if_false, ↓reduceIte, List.map_cons, List.map_nil]
    first | exact lineR_if (by simp) | exact ⟨_, rfl, fun x hx => by cases hx; rfl⟩ | exact ⟨_, rfl, fun x hx => by cases hx⟩
   ·(try simp +decide -implicitDefEqProofs only [go_sem, t1, t4, t5, hd, stepCells, polCells, lay, oneOr, List.take_succ_cons, List.take_zero, List.drop_succ_cons, List.drop_zero, List.nil_append, List.cons_append, Option.getD_some, Nat.reduceAdd, Nat.reduceLeDiff, List.append_nil, and_self, List.all_cons, List.all_nil])
    refine aret_pure (.inr rfl) ?_; simp +decide only [retOf, tget, if_true, if_false, ↓reduceIte, List.map_cons, List.map_nil]
    first | exact lineR_if (by simp) | exact ⟨_, rfl, fun x hx => by cases hx; rfl⟩ | exact ⟨_, rfl, fun x hx => by cases hx⟩
 by_cases hd : s.dof = 5
 case pos =>
  rw [if_neg (by omega), if_neg (by omega), if_neg (by omega), if_neg (by omega), if_pos (by omega)]
  (try simp +decide -implicitDefEqProofs only [go_sem, t1, t4, t5, hd, stepCells, polCells, lay, oneOr, List.take_succ_cons, List.take_zero, List.drop_succ_cons, List.drop_zero, List.nil_append, List.cons_append, Option.getD_some, Nat.reduceAdd, Nat.reduceLeDiff, List.append_nil, and_self, List.all_cons, List.all_nil])
  refine stk_pure (line_okL L true [.str w, .num s.n] (by simp) (fitsL2 hwz trivial)) fun v hv => ?_
  subst hv
  cases hl : lnLine [.str w, .num s.n] with
  | none =>
   unfold optR
   (try simp +decide -implicitDefEqProofs only [go_sem, t1, t4, t5, hd, stepCells, polCells, lay, oneOr, List.take_succ_cons, List.take_zero, List.drop_succ_cons, List.drop_zero, List.nil_append, List.cons_append, Option.getD_some, Nat.reduceAdd, Nat.reduceLeDiff, List.append_nil, and_self, List.all_cons, List.all_nil])
   refine aret_pure (.inr rfl) ?_; simp +decide only [retOf, tget, if_true, if_false, ↓reduceIte, List.map_cons, List.map_nil]
   exact lineR_no
  | some t =>
   unfold optR
   generalize lnOnly s = o at t5 ⊢
   cases o
   ·(try simp +decide -implicitDefEqProofs only [go_sem, t1, t4, t5, hd, stepCells, polCells, lay, oneOr, List.take_succ_cons, List.take_zero, List.drop_succ_cons, List.drop_zero, List.nil_append, List.cons_append, Option.getD_some, Nat.reduceAdd, Nat.reduceLeDiff, List.append_nil, and_self, List.all_cons, List.all_nil])
    refine aret_pure (.inr rfl) ?_; simp +decide only [retOf, tget, if_true, if_false, ↓reduceIte, List.map_cons, List.map_nil]
    first | exact lineR_if (by simp) | exact ⟨_, rfl, fun x hx => by cases hx; rfl⟩ | exact ⟨_, rfl, fun x hx => by cases hx⟩
   ·(try simp +decide -implicitDefEqProofs only [go_sem, t1, t4, t5, hd, stepCells, polCells, lay, oneOr, List.take_succ_cons, List.take_zero, List.drop_succ_cons, List.drop_zero, List.nil_append, List.cons_append, Option.getD_some, Nat.reduceAdd, Nat.reduceLeDiff, List.append_nil, and_self, List.all_cons, List.all_nil])
    refine aret_pure (.inr rfl) ?_; simp +decide only [retOf, tget, if_true, if_false, ↓reduceIte, List.map_cons, List.map_nil]
    first | exact lineR_if (by simp) | exact ⟨_, rfl, fun x hx => by cases hx; rfl⟩ | exact ⟨_, rfl, fun x hx => by cases hx⟩
 by_cases hd : s.dof = 6
 case pos =>
  rw [if_neg (by omega), if_neg (by omega), if_neg (by omega), if_neg (by omega), if_pos (by omega)]
  (try simp +decide -implicitDefEqProofs only [go_sem, t1, t4, t5, hd, stepCells, polCells, lay, oneOr, List.take_succ_cons, List.take_zero, List.drop_succ_cons, List.drop_zero, List.nil_append, List.cons_append, Option.getD_some, Nat.reduceAdd, Nat.reduceLeDiff, List.append_nil, and_self, List.all_cons, List.all_nil])
  refine stk_pure (line_okL L true [.str w, .num s.n] (by simp) (fitsL2 hwz trivial)) fun v hv => ?_
  subst hv
  cases hl : lnLine [.str w, .num s.n] with
  | none =>
   unfold optR
   (try simp +decide -implicitDefEqProofs only [go_sem, t1, t4, t5, hd, stepCells, polCells, lay, oneOr, List.take_succ_cons, List.take_zero, List.drop_succ_cons, List.drop_zero, List.nil_append, List.cons_append, Option.getD_some, Nat.reduceAdd, Nat.reduceLeDiff, List.append_nil, and_self, List.all_cons, List.all_nil])
   refine aret_pure (.inr rfl) ?_; simp +decide only [retOf, tget, if_true, if_false, ↓reduceIte, List.map_cons, List.map_nil]
   exact lineR_no
  | some t =>
   unfold optR
   generalize lnOnly s = o at t5 ⊢
   cases o
   ·(try simp +decide -implicitDefEqProofs only [go_sem, t1, t4, t5, hd, stepCells, polCells, lay, oneOr, List.take_succ_cons, List.take_zero, List.drop_succ_cons, List.drop_zero, List.nil_append, List.cons_append, Option.getD_some, Nat.reduceAdd, Nat.reduceLeDiff, List.append_nil, and_self, List.all_cons, List.all_nil])
    refine aret_pure (.inr rfl) ?_; simp +decide only [retOf, tget, if_true, if_false, ↓reduceIte, List.map_cons, List.map_nil]
    first | exact lineR_if (by simp) | exact ⟨_, rfl, fun x hx => by cases hx; rfl⟩ | exact ⟨_, rfl, fun x hx => by cases hx⟩
   ·(try simp +decide -implicitDefEqProofs only [go_sem, t1, t4, t5, hd, stepCells, polCells, lay, oneOr, List.take_succ_cons, List.take_zero, List.drop_succ_cons, List.drop_zero, List.nil_append, List.cons_append, Option.getD_some, Nat.reduceAdd, Nat.reduceLeDiff, List.append_nil, and_self, List.all_cons, List.all_nil])
    refine aret_pure (.inr rfl) ?_; simp +decide only [retOf, tget, if_true, if_false, ↓reduceIte, List.map_cons, List.map_nil]
    first | exact lineR_if (by simp) | exact ⟨_, rfl, fun x hx => by cases hx; rfl⟩ | exact ⟨_, rfl, fun x hx => by cases hx⟩
 by_cases hd : s.dof = 7
 case pos =>
  rw [if_neg (by omega), if_neg (by omega), if_neg (by omega), if_neg (by omega), if_pos (by omega)]
  (try simp +decide -implicitDefEqProofs only [go_sem, t1, t4, t5, hd, stepCells, polCells, lay, oneOr, List.take_succ_cons, List.take_zero, List.drop_succ_cons, List.drop_zero, List.nil_append, List.cons_append, Option.getD_some, Nat.reduceAdd, Nat.reduceLeDiff, List.append_nil, and_self, List.all_cons, List.all_nil])
  refine stk_pure (line_okL L true [.str w, .num s.n] (by simp) (fitsL2 hwz trivial)) fun v hv => ?_
  subst hv
  cases hl : lnLine [.str w, .num s.n] with
  | none =>
   unfold optR
   (try simp +decide -implicitDefEqProofs only [go_sem, t1, t4, t5, hd, stepCells, polCells, lay, oneOr, List.take_succ_cons, List.take_zero, List.drop_succ_cons, List.drop_zero, List.nil_append, List.cons_append, Option.getD_some, Nat.reduceAdd, Nat.reduceLeDiff, List.append_nil, and_self, List.all_cons, List.all_nil])
   refine aret_pure (.inr rfl) ?_; simp +decide only [retOf, tget, if_true, if_false, ↓reduceIte, List.map_cons, List.map_nil]
   exact lineR_no
  | some t =>
   unfold optR
   generalize lnOnly s = o at t5 ⊢
   cases o
   ·(try simp +decide -implicitDefEqProofs only [go_sem, t1, t4, t5, hd, stepCells, polCells, lay, oneOr, List.take_succ_cons, List.take_zero, List.drop_succ_cons, List.drop_zero, List.nil_append, List.cons_append, Option.getD_some, Nat.reduceAdd, Nat.reduceLeDiff, List.append_nil, and_self, List.all_cons, List.all_nil])
    refine aret_pure (.inr rfl) ?_; simp +decide only [retOf, tget, if_true, if_false, ↓reduceIte, List.map_cons, List.map_nil]
    first | exact lineR_if (by simp) | exact ⟨_, rfl, fun x hx => by cases hx; rfl⟩ | exact ⟨_, rfl, fun x hx => by cases hx⟩
   ·(try simp +decide -implicitDefEqProofs only [go_sem, t1, t4, t5, hd, stepCells, polCells, lay, oneOr, List.take_succ_cons, List.take_zero, List.drop_succ_cons, List.drop_zero, List.nil_append, List.cons_append, Option.getD_some, Nat.reduceAdd, Nat.reduceLeDiff, List.append_nil, and_self, List.all_cons, List.all_nil])
    refine aret_pure (.inr rfl) ?_; simp +decide only [retOf, tget, if_true, if_false, ↓reduceIte, List.map_cons, List.map_nil]
    first | exact lineR_if (by simp) | exact ⟨_, rfl, fun x hx => by cases hx; rfl⟩ | exact ⟨_, rfl, fun x hx => by cases hx⟩
 by_cases hd : s.dof = 8
 case pos =>
  rw [if_neg (by omega), if_neg (by omega), if_neg (by omega), if_neg (by omega), if_neg (by omega), if_pos (by omega)]
  (try simp +decide -implicitDefEqProofs only [go_sem, t1, t4, t5, hd, stepCells, polCells, lay, oneOr, List.take_succ_cons, List.take_zero, List.drop_succ_cons, List.drop_zero, List.nil_append, List.cons_append, Option.getD_some, Nat.reduceAdd, Nat.reduceLeDiff, List.append_nil, and_self, List.all_cons, List.all_nil])
  refine stk_pure (line_okL L true [.str w, .num s.node, .num s.n] (by simp) (fitsL3 hwz trivial trivial)) fun v hv => ?_
  subst hv
  cases hl : lnLine [.str w, .num s.node, .num s.n] with
  | none =>
   unfold optR
   (try simp +decide -implicitDefEqProofs only [go_sem, t1, t4, t5, hd, stepCells, polCells, lay, oneOr, List.take_succ_cons, List.take_zero, List.drop_succ_cons, List.drop_zero, List.nil_append, List.cons_append, Option.getD_some, Nat.reduceAdd, Nat.reduceLeDiff, List.append_nil, and_self, List.all_cons, List.all_nil])
   refine aret_pure (.inr rfl) ?_; simp +decide only [retOf, tget, if_true, if_false, ↓reduceIte, List.map_cons, List.map_nil]
   exact lineR_no
  | some t =>
   unfold optR
   generalize lnOnly s = o at t5 ⊢
   cases o
   ·(try simp +decide -implicitDefEqProofs only [go_sem, t1, t4, t5, hd, stepCells, polCells, lay, oneOr, List.take_succ_cons, List.take_zero, List.drop_succ_cons, List.drop_zero, List.nil_append, List.cons_append, Option.getD_some, Nat.reduceAdd, Nat.reduceLeDiff, List.append_nil, and_self, List.all_cons, List.all_nil])
    refine aret_pure (.inr rfl) ?_; simp +decide only [retOf, tget, if_true, if_false, ↓reduceIte, List.map_cons, List.map_nil]
    first | exact lineR_if (by simp) | exact ⟨_, rfl, fun x hx => by cases hx; rfl⟩ | exact ⟨_, rfl, fun x hx => by cases hx⟩
   ·(try simp +decide -implicitDefEqProofs only [go_sem, t1, t4, t5, hd, stepCells, polCells, lay, oneOr, List.take_succ_cons, List.take_zero, List.drop_succ_cons, List.drop_zero, List.nil_append, List.cons_append, Option.getD_some, Nat.reduceAdd, Nat.reduceLeDiff, List.append_nil, and_self, List.all_cons, List.all_nil])
    refine aret_pure (.inr rfl) ?_; simp +decide only [retOf, tget, if_true, if_false, ↓reduceIte, List.map_cons, List.map_nil]
    first | exact lineR_if (by simp) | exact ⟨_, rfl, fun x hx => by cases hx; rfl⟩ | exact ⟨_, rfl, fun x hx => by cases hx⟩
 by_cases hd : s.dof = 10
 case pos =>
  rw [if_neg (by omega), if_neg (by omega), if_neg (by omega), if_neg (by omega), if_neg (by omega), if_pos (by omega)]
  (try simp +decide -implicitDefEqProofs only [go_sem, t1, t4, t5, hd, stepCells, polCells, lay, oneOr, List.take_succ_cons, List.take_zero, List.drop_succ_cons, List.drop_zero, List.nil_append, List.cons_append, Option.getD_some, Nat.reduceAdd, Nat.reduceLeDiff, List.append_nil, and_self, List.all_cons, List.all_nil])
  refine stk_pure (line_okL L true [.str w, .num s.node, .num s.n] (by simp) (fitsL3 hwz trivial trivial)) fun v hv => ?_
  subst hv
  cases hl : lnLine [.str w, .num s.node, .num s.n] with
  | none =>
   unfold optR
   (try simp +decide -implicitDefEqProofs only [go_sem, t1, t4, t5, hd, stepCells, polCells, lay, oneOr, List.take_succ_cons, List.take_zero, List.drop_succ_cons, List.drop_zero, List.nil_append, List.cons_append, Option.getD_some, Nat.reduceAdd, Nat.reduceLeDiff, List.append_nil, and_self, List.all_cons, List.all_nil])
   refine aret_pure (.inr rfl) ?_; simp +decide only [retOf, tget, if_true, if_false, ↓reduceIte, List.map_cons, List.map_nil]
   exact lineR_no
  | some t =>
   unfold optR
   generalize lnOnly s = o at t5 ⊢
   cases o
   ·(try simp +decide -implicitDefEqProofs only [go_sem, t1, t4, t5, hd, stepCells, polCells, lay, oneOr, List.take_succ_cons, List.take_zero, List.drop_succ_cons, List.drop_zero, List.nil_append, List.cons_append, Option.getD_some, Nat.reduceAdd, Nat.reduceLeDiff, List.append_nil, and_self, List.all_cons, List.all_nil])
    refine aret_pure (.inr rfl) ?_; simp +decide only [retOf, tget, if_true, if_false, ↓reduceIte, List.map_cons, List.map_nil]
    first | exact lineR_if (by simp) | exact ⟨_, rfl, fun x hx => by cases hx; rfl⟩ | exact ⟨_, rfl, fun x hx => by cases hx⟩
   ·(try simp +decide -implicitDefEqProofs only [go_sem, t1, t4, t5, hd, stepCells, polCells, lay, oneOr, List.take_succ_cons, List.take_zero, List.drop_succ_cons, List.drop_zero, List.nil_append, List.cons_append, Option.getD_some, Nat.reduceAdd, Nat.reduceLeDiff, List.append_nil, and_self, List.all_cons, List.all_nil])
    refine aret_pure (.inr rfl) ?_; simp +decide only [retOf, tget, if_true, if_false, ↓reduceIte, List.map_cons, List.map_nil]
    first | exact lineR_if (by simp) | exact ⟨_, rfl, fun x hx => by cases hx; rfl⟩ | exact ⟨_, rfl, fun x hx => by cases hx⟩
 rw [if_neg (by omega), if_neg (by omega), if_neg (by omega), if_neg (by omega), if_neg (by omega), if_neg (by omega)]
 have n1 : ¬ s.dof = 1 := by omega
 have n2 : ¬ s.dof = 2 := by omega
 have n3 : ¬ s.dof = 3 := by omega
 have n4 : ¬ s.dof = 4 := by omega
 have n5 : ¬ s.dof = 5 := by omega
 have n6 : ¬ s.dof = 6 := by omega
 have n7 : ¬ s.dof = 7 := by omega
 have n8 : ¬ s.dof = 8 := by omega
 have n9 : ¬ s.dof = 9 := by omega
 have n10 : ¬ s.dof = 10 := by omega
 (try simp +decide -implicitDefEqProofs only [go_sem, t1, stepCells, polCells, n1, n2, n3, n4, n5, n6, n7, n8, n9, n10, lay, oneOr, List.take_succ_cons, List.take_zero, List.drop_succ_cons, List.drop_zero, List.nil_append, List.cons_append, Option.getD_some, Nat.reduceAdd, Nat.reduceLeDiff, List.append_nil, and_self, List.all_cons, List.all_nil])
 refine aret_pure (.inr rfl) ?_; simp +decide only [retOf, tget, if_true, if_false, ↓reduceIte, List.map_cons, List.map_nil]
 exact ⟨_, rfl, fun x hx => by cases hx⟩
end Go.Proofs.YtfaodacmdlnabaaGreatDoor.M
