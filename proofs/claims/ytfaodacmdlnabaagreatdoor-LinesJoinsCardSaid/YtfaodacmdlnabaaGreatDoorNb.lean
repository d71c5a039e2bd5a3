/-
 The store: walked, as far as no policy is followed.
-/
import Derived.Test.YtfaodacmdlnabaaGreatDoorNa
namespace Go.Proofs.YtfaodacmdlnabaaGreatDoor.M
open Go.RowKit
set_option linter.unusedVariables false
set_option linter.unusedSimpArgs false
abbrev tStore : Nat := 161
def idB (c : Int) : Bool := (decide (97 ≤ c) && decide (c ≤ 122)) || (decide (48 ≤ c) && decide (c ≤ 57))
def idOk (s : Str) : Bool := (List.range s.size).all (fun i => idB (bt s i)) && (decide (s ≠ ByteArray.empty) && decide (s.size ≤ 16))
theorem idOk_no {s : Str} {i : Nat} (h : i < s.size) (hb : idB (bt s i) = false) : AVal.v (.bool false) = .v (.bool (idOk s)) := by
 have : idOk s = false := by
  unfold idOk
  rw [Bool.and_eq_false_iff]; left
  rw [List.all_eq_false]
  exact ⟨i, by simp [h], by simp [hb]⟩
 rw [this]
theorem idOk_yes {s : Str} (h : ∀ i, i < s.size → idB (bt s i) = true) : idOk s = (decide (s ≠ ByteArray.empty) && decide (s.size ≤ 16)) := by
 unfold idOk
 rw [List.all_eq_true.2 (fun i hi => h i (by simpa using hi))]
 rfl
theorem idOk_size {s : Str} (h : idOk s = true) : s ≠ ByteArray.empty ∧ s.size ≤ 16 := by
 unfold idOk at h
 simp only [Bool.and_eq_true, decide_eq_true_eq] at h
 exact h.2
def c_isID : AFn := ⟨1, 36, [2],
 .seq (.ops [oq 2 (.mv (.const (.bool false)))])
 (.seq (.seq (.ops [oq 5 (.mv (.tmp 0)),
   oq 6 (.len true (.tmp 5)),
   oq 7 (.mv (.const (.int .i64 0)))])
 (.block 0 (.loop (.seq (.ops [oq 8 (.bin .lss .num (.tmp 7) (.tmp 6))])
   (.seq (.cond (.tmp 8)
    (.skip)
    (.exit 0))
   (.seq (.block 1 (.seq (.ops [oq 9 (.mv (.tmp 7)),
      oq 3 (.mv (.tmp 9))])
    (.seq (.ops [oq 10 (.mv (.tmp 0)),
      oq 11 (.mv (.tmp 3)),
      oq 12 (.six (.tmp 10) (.tmp 11)),
      oq 4 (.mv (.tmp 12))])
    (.seq (.ops [oq 13 (.mv (.tmp 4)),
      oq 14 (.bin .geq .num (.tmp 13) (.const (.int .u8 97))),
      oq 15 (.mv (.tmp 14)),
      og 16 15 true (.mv (.tmp 4)),
      og 17 15 true (.bin .leq .num (.tmp 16) (.const (.int .u8 122))),
      oq 18 (.pick (.tmp 15) (.tmp 17) (.const (.bool false))),
      oq 19 (.mv (.tmp 18)),
      og 20 19 false (.mv (.tmp 4)),
      og 21 19 false (.bin .geq .num (.tmp 20) (.const (.int .u8 48))),
      og 22 19 false (.mv (.tmp 21)),
      og 23 22 true (.mv (.tmp 4)),
      og 24 22 true (.bin .leq .num (.tmp 23) (.const (.int .u8 57))),
      og 25 19 false (.pick (.tmp 22) (.tmp 24) (.const (.bool false))),
      oq 26 (.pick (.tmp 19) (.const (.bool true)) (.tmp 25)),
      oq 27 (.un .not (.tmp 26))])
    (.cond (.tmp 27)
     (.seq (.ops [oq 2 (.mv (.const (.bool false)))])
     (.ret))
     (.skip))))))
   (.ops [oq 28 (.bin .add .num (.tmp 7) (.const (.int .i64 1))),
     oq 7 (.mv (.tmp 28))])))))))
 (.seq (.ops [oq 29 (.mv (.tmp 0)),
   oq 30 (.bin .neq .num (.tmp 29) (.const (.string ByteArray.empty))),
   oq 31 (.mv (.tmp 30)),
   og 32 31 true (.mv (.tmp 0)),
   og 33 31 true (.len true (.tmp 32)),
   og 34 31 true (.bin .leq .num (.tmp 33) (.const (.int .i64 16))),
   oq 35 (.pick (.tmp 31) (.tmp 34) (.const (.bool false))),
   oq 2 (.mv (.tmp 35))])
 (.ret))), []⟩
theorem k_isID : compF Tryz.prog 185 = some c_isID := by kernel_rfl
set_option maxHeartbeats 4000000 in
theorem isID_ok {W : World} (s : Str) (hs : s.size ≤ maxLen) : ACalls Tryz.prog W 185 [.v (.string s)] AHeap.none fun v _ => v = .v (.bool (idOk s)) := by
 unfold maxLen at hs
 refine fn_run follows k_isID rfl ?_
 simp only [oq, og, oe, oh, on, c_isID, aretC_nil, List.zipIdx_cons, List.zipIdx_nil, List.map_cons, List.map_nil, Nat.zero_add]
 (try simp +decide -implicitDefEqProofs only [go_sem])
 refine stk_up (α := Unit) s.size (fun i _ => ⟨[(7, .v (.int .i64 i)), (6, .v (.int .i64 s.size)), (0, .v (.string s))], AHeap.none⟩) (fun i _ => ∀ j, j < i → idB (bt s j) = true) () (Weak.list _ (Sub.refl _) (by (try simp +decide -implicitDefEqProofs only [go_sem]))) (by intro j h; omega) ?_
 rintro i ⟨⟩ hi hJ
 by_cases hlt : i < s.size
 ·have g1 : (i : Int) < (s.size : Int) := by omega
  have hw : IntKind.i64.wrap ((i : Int) + 1) = (i : Int) + 1 := by rw [IntKind.wrap_i64]; omega
  have hnn : (0 : Int) ≤ (i : Int) := by omega
  have hnext : idB (bt s i) = true → ∀ j, j < i + 1 → idB (bt s j) = true := fun h j hj => by
   by_cases e : j = i
   ·rw [e]; exact h
   ·exact hJ j (by omega)
  have hno := idOk_no hlt
  have hdef : idB (bt s i) = ((decide (97 ≤ bt s i) && decide (bt s i ≤ 122)) || (decide (48 ≤ bt s i) && decide (bt s i ≤ 57))) := rfl
  generalize idB (bt s i) = ok at hnext hno hdef
  generalize hc : bt s i = c at hdef
  by_cases a1 : 97 ≤ c
  ·have a4 : (48 : Int) ≤ c := by omega
   have a5 : ¬ c ≤ 57 := by omega
   by_cases a2 : c ≤ 122
   ·(try simp +decide -implicitDefEqProofs only [go_sem, g1, hlt, hnn, hw, hc, a1, a2])
    refine ⟨(), Weak.list _ (Sub.refl _) (by (try simp +decide -implicitDefEqProofs only [go_sem])), ?_⟩
    exact hnext (by rw [hdef]; simp [a1, a2])
   ·(try simp +decide -implicitDefEqProofs only [go_sem, g1, hlt, hnn, hw, hc, a1, a2, a4, a5])
    refine aret_pure (.inr rfl) ?_; simp +decide only [retOf, tget, if_true, if_false, ↓reduceIte, List.map_cons, List.map_nil]
    exact hno (by rw [hdef]; simp [a2, a5])
  ·by_cases a4 : 48 ≤ c
   ·by_cases a5 : c ≤ 57
    ·(try simp +decide -implicitDefEqProofs only [go_sem, g1, hlt, hnn, hw, hc, a1, a4, a5])
     refine ⟨(), Weak.list _ (Sub.refl _) (by (try simp +decide -implicitDefEqProofs only [go_sem])), ?_⟩
     exact hnext (by rw [hdef]; simp [a4, a5])
    ·(try simp +decide -implicitDefEqProofs only [go_sem, g1, hlt, hnn, hw, hc, a1, a4, a5])
     refine aret_pure (.inr rfl) ?_; simp +decide only [retOf, tget, if_true, if_false, ↓reduceIte, List.map_cons, List.map_nil]
     exact hno (by rw [hdef]; simp [a1, a5])
   ·(try simp +decide -implicitDefEqProofs only [go_sem, g1, hlt, hnn, hw, hc, a1, a4])
    refine aret_pure (.inr rfl) ?_; simp +decide only [retOf, tget, if_true, if_false, ↓reduceIte, List.map_cons, List.map_nil]
    exact hno (by rw [hdef]; simp [a1, a4])
 ·have g1 : ¬ (i : Int) < (s.size : Int) := by omega
  have hall : idOk s = _ := idOk_yes (fun j hj => hJ j (by omega))
  rw [hall]
  by_cases e0 : s = ByteArray.empty
  ·have d0 : decide (¬ s = ByteArray.empty) = false := decide_eq_false (fun h => h e0)
   (try simp +decide -implicitDefEqProofs only [go_sem, g1, d0, ne_eq])
   refine aret_pure (.inr rfl) ?_; simp +decide only [retOf, tget, if_true, if_false, ↓reduceIte, List.map_cons, List.map_nil]
   simp [e0]
  ·have d0 : decide (¬ s = ByteArray.empty) = true := decide_eq_true e0
   by_cases e1 : s.size ≤ 16
   ·have g2 : (s.size : Int) ≤ 16 := by omega
    (try simp +decide -implicitDefEqProofs only [go_sem, g1, d0, g2, ne_eq])
    refine aret_pure (.inr rfl) ?_; simp +decide only [retOf, tget, if_true, if_false, ↓reduceIte, List.map_cons, List.map_nil]
    simp [e0, e1]
   ·have g2 : ¬ (s.size : Int) ≤ 16 := by omega
    (try simp +decide -implicitDefEqProofs only [go_sem, g1, d0, g2, ne_eq])
    refine aret_pure (.inr rfl) ?_; simp +decide only [retOf, tget, if_true, if_false, ↓reduceIte, List.map_cons, List.map_nil]
    simp [e1]
theorem sget_sput {x y : Str} {v : AVal} {c : Nat} : ∀ l : List (Str × Nat × AVal), sget y (sput x v c l) = if y = x then some v else sget y l
 | [] => by
  by_cases h : y = x
  ·subst h; simp [sput, sget]
  ·simp [sput, sget, h]
 | e :: l => by
  have ih := sget_sput (x := x) (y := y) (v := v) (c := c) l
  unfold sput
  split
  ·rename_i h1
   by_cases h : y = x
   ·subst h; simp [sget, h1]
   ·rw [if_neg h]; simp [sget, ← h1, h]
  ·rename_i h1
   by_cases h : y = e.1
   ·have h2 : ¬ y = x := fun e2 => h1 (by rw [← e2, h])
    rw [if_neg h2]; simp [sget, h]
   ·rw [sget, if_neg h, ih, sget, if_neg h]
/-- A post, as it is kept. -/
def keptV (id raw : Str) : AVal := .agg [.v (.string id), .v (.string raw), .v (.int .i64 0), .v (.string ByteArray.empty)]
def IsKept (e : Str × Nat × AVal) : Prop := ∃ raw, e.2.2 = keptV e.1 raw ∧ raw.size ≤ 2000 ∧ idOk e.1 = true
def stoCells (l ps st : Nat) : List AVal := [ptr l, .v (.map (some ps)), .v (.map (some st)), .v (.slice none 0 0)]
/-- A store that follows no policy, and uses so many bytes at most. -/
structure Sto (H : AHeap) (s l d ps st used : Nat) (pl : List (Str × Nat × AVal)) : Prop where
 here : H s = some (.cells tStore (stoCells l ps st))
 log : H l = some (.cells tLog [ptr d])
 dev : ∃ X rows n, DevH H d X rows n ∧ rows.length ≤ used
 posts : ∃ pc, H ps = some (.mp (smap pl) pc) ∧ Neat pl pc
 stale : ∃ sl sc, H st = some (.mp (smap sl) sc)
 few : pl.length ≤ 64
 kv : ∀ e ∈ pl, IsKept e
 ne : ps ≠ st
 wait : ∃ sl sc, H st = some (.mp (smap sl) sc) ∧ ∀ e ∈ pl, sget e.1 sl = some (.v (.bool true))
theorem Sto.kept {H H' : AHeap} {s l d ps st used : Nat} {pl : List (Str × Nat × AVal)} (h : Sto H s l d ps st used pl) (hk : ∀ c o, H c = some o → H' c = some o) : Sto H' s l d ps st used pl := by
 obtain ⟨X, rows, n, hd, hu⟩ := h.dev
 obtain ⟨pc, hp, hn⟩ := h.posts
 obtain ⟨sl, sc, hs⟩ := h.stale
 obtain ⟨wl, wc, hw1, hw2⟩ := h.wait
 exact ⟨hk _ _ h.here, hk _ _ h.log, ⟨X, rows, n, hd.kept hk, hu⟩, ⟨pc, hk _ _ hp, hn⟩, ⟨sl, sc, hk _ _ hs⟩, h.few, h.kv, h.ne, wl, wc, hk _ _ hw1, hw2⟩
/-- What a store does not own stays. -/
def KeptS (d ps st : Nat) (H H' : AHeap) : Prop := ∀ c o, H c = some o → c ≠ d → c ≠ ps → c ≠ st → (∀ rows, o ≠ .buf tU8 1 rows) → H' c = some o
theorem KeptS.of {d ps st : Nat} {H H' : AHeap} (h : ∀ c o, H c = some o → H' c = some o) : KeptS d ps st H H' := fun c o hc _ _ _ _ => h c o hc
theorem KeptS.trans {d ps st : Nat} {H H' H2 : AHeap} (h : KeptS d ps st H H') (k : KeptS d ps st H' H2) : KeptS d ps st H H2 := fun c o hc h1 h2 h3 h4 => k c o (h c o hc h1 h2 h3 h4) h1 h2 h3 h4
def mayE (id raw : Str) (pl : List (Str × Nat × AVal)) : Int :=
 if idOk id = false then 1 else if (sget id pl).isSome then 9 else if 2000 < raw.size then 4 else if 64 ≤ pl.length then 10 else 0
theorem smap_len (l : List (Str × Nat × AVal)) : (smap l).length = l.length := by simp [smap]
theorem sget_mem {x : Str} {v : AVal} : ∀ {l : List (Str × Nat × AVal)}, sget x l = some v → ∃ e ∈ l, e.1 = x ∧ e.2.2 = v
 | [], h => by cases h
 | e :: l, h => by
  rw [sget] at h
  split at h
  ·rename_i hx; cases h; exact ⟨e, by simp, hx.symm, rfl⟩
  ·obtain ⟨e', he, h1, h2⟩ := sget_mem h
   exact ⟨e', by simp [he], h1, h2⟩
def c_mayPost : AFn := ⟨3, 35, [6],
 .seq (.ops [oq 6 (.mv (.const (.int .i64 0)))])
 (.seq (.ops [oq 10 (.mv (.tmp 0)),
   oq 11 (.nck (.tmp 10)),
   oq 12 (.fad 1 1 (.tmp 11)),
   oq 13 (.ld false 1 (.tmp 12)),
   oq 14 (.mv (.tmp 1)),
   oq 15 (.lk none true (.agg #[(.string ByteArray.empty), (.string ByteArray.empty), (.int .i64 0), (.string ByteArray.empty)]) (.tmp 13) (.tmp 14)),
   oq 9 (.mv (.tmp 15)),
   oq 16 (.ext (.tmp 9) 0),
   oq 17 (.ext (.tmp 9) 1),
   oe 7 (.alloc 165 [(.string ByteArray.empty), (.string ByteArray.empty), (.int .i64 0), (.string ByteArray.empty)]),
   on (.st 4 (.tmp 7) (.tmp 16)),
   oq 8 (.mv (.tmp 17))])
 (.seq (.block 0 (.seq (.ops [oq 19 (.mv (.tmp 1)),
    oe 20 (.call 185 [(.tmp 19)]),
    oq 21 (.un .not (.tmp 20)),
    oq 18 (.mv (.tmp 21))])
  (.cond (.tmp 18)
   (.seq (.ops [oq 6 (.mv (.const (.int .i64 1)))])
   (.ret))
   (.seq (.ops [oq 23 (.mv (.tmp 8)),
     oq 22 (.mv (.tmp 23))])
   (.cond (.tmp 22)
    (.seq (.ops [oq 6 (.mv (.const (.int .i64 9)))])
    (.ret))
    (.seq (.ops [oq 25 (.mv (.tmp 2)),
      oq 26 (.len true (.tmp 25)),
      oq 27 (.bin .gtr .num (.tmp 26) (.const (.int .i64 2000))),
      oq 24 (.mv (.tmp 27))])
    (.cond (.tmp 24)
     (.seq (.ops [oq 6 (.mv (.const (.int .i64 4)))])
     (.ret))
     (.seq (.ops [oq 29 (.mv (.tmp 0)),
       oq 30 (.nck (.tmp 29)),
       oq 31 (.fad 1 1 (.tmp 30)),
       oq 32 (.ld false 1 (.tmp 31)),
       oq 33 (.mlen (.tmp 32)),
       oq 34 (.bin .geq .num (.tmp 33) (.const (.int .i64 64))),
       oq 28 (.mv (.tmp 34))])
     (.cond (.tmp 28)
      (.seq (.ops [oq 6 (.mv (.const (.int .i64 10)))])
      (.ret))
      (.skip))))))))))
 (.seq (.ops [oq 6 (.mv (.const (.int .i64 0)))])
 (.ret)))), []⟩
theorem k_mayPost : compF Tryz.prog 159 = some c_mayPost := by kernel_rfl
set_option maxHeartbeats 4000000 in
theorem mayPost_ok {W : World} {H : AHeap} {s l d ps st used : Nat} {pl : List (Str × Nat × AVal)} (h : Sto H s l d ps st used pl) (id raw : Str) (hid : id.size ≤ maxLen) :
  ACalls Tryz.prog W 159 [ptr s, .v (.string id), .v (.string raw)] H fun v H' => v = .v (.int .i64 (mayE id raw pl)) ∧ ∀ c o, H c = some o → H' c = some o := by
 have hg := h.here
 unfold stoCells at hg
 obtain ⟨pc, hp, hn⟩ := h.posts
 have hml := smap_len pl
 have hisid := isID_ok (W := W) id hid
 have hmay : mayE id raw pl = if idOk id = false then 1 else if (sget id pl).isSome then 9 else if 2000 < raw.size then 4 else if 64 ≤ pl.length then 10 else 0 := rfl
 rw [hmay]
 clear hmay
 obtain ⟨a, b', c, e, hq⟩ : ∃ (a b : Str) (c : Int) (e : Str), (sget id pl).getD (zeroA (.agg #[.string ByteArray.empty, .string ByteArray.empty, .int .i64 0, .string ByteArray.empty])) = .agg [.v (.string a), .v (.string b), .v (.int .i64 c), .v (.string e)] := by
  cases e : sget id pl with
  | none => exact ⟨_, _, _, _, rfl⟩
  | some v =>
   obtain ⟨e', he, h1, h2⟩ := sget_mem e
   obtain ⟨r, h3, _⟩ := h.kv e' he
   subst h2
   rw [h3]
   exact ⟨_, _, _, _, rfl⟩
 have k0 : kOk none (.string id) = true := rfl
 refine fn_run follows k_mayPost rfl ?_
 simp only [oq, og, oe, oh, on, c_mayPost, aretC_nil, List.zipIdx_cons, List.zipIdx_nil, List.map_cons, List.map_nil, Nat.zero_add]
 (try simp +decide -implicitDefEqProofs only [go_sem, hg, hp, smap_ok, mget_smap, hq, k0, lay, oneOr, List.take_succ_cons, List.take_zero, List.drop_succ_cons, List.drop_zero, List.nil_append, List.cons_append, Option.getD_some, Nat.reduceAdd, Nat.reduceLeDiff, List.append_nil, and_self, List.all_cons, List.all_nil])
 rw [stk_alloc]
 intro b hb
 have hb : H b = none := hb
 have hk : ∀ o, ∀ c o', H c = some o' → (H.put b o) c = some o' := fun o c o' hc => Kept.new (bad := fun _ => False) hb c o' hc (fun h => h)
 have hg2 := fun o => hk o _ _ hg
 have hp2 := fun o => hk o _ _ hp
 (try simp +decide -implicitDefEqProofs only [go_sem, hp_self, hp_hp, lay, oneOr, List.take_succ_cons, List.take_zero, List.drop_succ_cons, List.drop_zero, List.nil_append, List.cons_append, Option.getD_some, Nat.reduceAdd, Nat.reduceLeDiff, List.append_nil, and_self, List.all_cons, List.all_nil])
 refine stk_pure hisid fun v hv => ?_
 subst hv
 cases hi : idOk id
 ·(try simp +decide -implicitDefEqProofs only [go_sem, lay, oneOr, List.take_succ_cons, List.take_zero, List.drop_succ_cons, List.drop_zero, List.nil_append, List.cons_append, Option.getD_some, Nat.reduceAdd, Nat.reduceLeDiff, List.append_nil, and_self, List.all_cons, List.all_nil])
  exact ⟨.inr rfl, _, _, Sub.refl _, .refl _, rfl, hk _⟩
 cases hs : (sget id pl).isSome
 ·by_cases h1 : 2000 < raw.size
  ·have g1 : (2000 : Int) < (raw.size : Int) := by omega
   (try simp +decide -implicitDefEqProofs only [go_sem, g1, lay, oneOr, List.take_succ_cons, List.take_zero, List.drop_succ_cons, List.drop_zero, List.nil_append, List.cons_append, Option.getD_some, Nat.reduceAdd, Nat.reduceLeDiff, List.append_nil, and_self, List.all_cons, List.all_nil])
   exact ⟨.inr rfl, _, _, Sub.refl _, .refl _, by simp [h1]; rfl, hk _⟩
  ·have g1 : ¬ (2000 : Int) < (raw.size : Int) := by omega
   by_cases h2 : 64 ≤ pl.length
   ·have g2 : (64 : Int) ≤ (pl.length : Int) := by omega
    (try simp +decide -implicitDefEqProofs only [go_sem, g1, g2, hg2, hp2, hml, lay, oneOr, List.take_succ_cons, List.take_zero, List.drop_succ_cons, List.drop_zero, List.nil_append, List.cons_append, Option.getD_some, Nat.reduceAdd, Nat.reduceLeDiff, List.append_nil, and_self, List.all_cons, List.all_nil])
    exact ⟨.inr rfl, _, _, Sub.refl _, .refl _, by simp [h1, h2]; rfl, hk _⟩
   ·have g2 : ¬ (64 : Int) ≤ (pl.length : Int) := by omega
    (try simp +decide -implicitDefEqProofs only [go_sem, g1, g2, hg2, hp2, hml, lay, oneOr, List.take_succ_cons, List.take_zero, List.drop_succ_cons, List.drop_zero, List.nil_append, List.cons_append, Option.getD_some, Nat.reduceAdd, Nat.reduceLeDiff, List.append_nil, and_self, List.all_cons, List.all_nil])
    exact ⟨.inr rfl, _, _, Sub.refl _, .refl _, by simp [h1, h2]; rfl, hk _⟩
 ·(try simp +decide -implicitDefEqProofs only [go_sem, lay, oneOr, List.take_succ_cons, List.take_zero, List.drop_succ_cons, List.drop_zero, List.nil_append, List.cons_append, Option.getD_some, Nat.reduceAdd, Nat.reduceLeDiff, List.append_nil, and_self, List.all_cons, List.all_nil])
  exact ⟨.inr rfl, _, _, Sub.refl _, .refl _, rfl, hk _⟩
theorem sput_end {x : Str} {v : AVal} {c : Nat} : ∀ {l : List (Str × Nat × AVal)}, sget x l = none → sput x v c l = l ++ [(x, c, v)]
 | [], _ => rfl
 | e :: l, h => by
  rw [sget] at h
  split at h
  ·cases h
  ·rename_i hx
   rw [sput, if_neg hx, sput_end h]; rfl
theorem RowO.blk2' {H : AHeap} {E sz c : Nat} {x : AVal} {rows : List (List AVal)} (h : RowO H E sz x rows) (hb : blkOf x = some c) : H c = some (.buf E sz rows) := by
 cases h with
 | nil => cases hb
 | bs h hn => cases hb; exact h
def c_stPost : AFn := ⟨3, 19, [],
 .seq (.ops [oq 6 (.mv (.tmp 0)),
   oq 7 (.nck (.tmp 6)),
   oq 8 (.fad 1 1 (.tmp 7)),
   oq 9 (.ld false 1 (.tmp 8)),
   oq 10 (.mv (.tmp 1)),
   oq 11 (.mv (.tmp 1)),
   oq 12 (.mv (.tmp 2)),
   oq 13 (.bld [(.string ByteArray.empty), (.string ByteArray.empty), (.int .i64 0), (.string ByteArray.empty)] [(0, 1, (.tmp 11)), (1, 1, (.tmp 12))]),
   on (.up none (.tmp 9) (.tmp 10) (.tmp 13))])
 (.ops [oq 14 (.mv (.tmp 0)),
   oq 15 (.nck (.tmp 14)),
   oq 16 (.fad 2 1 (.tmp 15)),
   oq 17 (.ld false 1 (.tmp 16)),
   oq 18 (.mv (.tmp 1)),
   on (.up none (.tmp 17) (.tmp 18) (.const (.bool true)))]), []⟩
theorem k_stPost : compF Tryz.prog 160 = some c_stPost := by kernel_rfl
set_option maxHeartbeats 4000000 in
theorem stPost_ok {W : World} {H : AHeap} {s l d ps st used : Nat} {pl : List (Str × Nat × AVal)} (h : Sto H s l d ps st used pl) (id raw : Str) (hid : idOk id = true) (hraw : raw.size ≤ 2000) (hnew : sget id pl = none) (hfew : pl.length < 64) :
  ACalls Tryz.prog W 160 [ptr s, .v (.string id), .v (.string raw)] H fun v H' => (∃ c, Sto H' s l d ps st used (pl ++ [(id, c, keptV id raw)])) ∧ KeptS d ps st H H' := by
 have hg := h.here
 unfold stoCells at hg
 obtain ⟨pc, hp, hn⟩ := h.posts
 obtain ⟨sl, sc, hs, hwt⟩ := h.wait
 obtain ⟨X, rows, n, hd, hu⟩ := h.dev
 have hne := h.ne
 have hsp : s ≠ ps := fun e => by rw [e, hp] at hg; cases hg
 have hss : s ≠ st := fun e => by rw [e, hs] at hg; cases hg
 have hlp : l ≠ ps := fun e => by have := h.log; rw [e, hp] at this; cases this
 have hls : l ≠ st := fun e => by have := h.log; rw [e, hs] at this; cases this
 have hdp : d ≠ ps := fun e => by have := hd.here; rw [e, hp] at this; cases this
 have hds : d ≠ st := fun e => by have := hd.here; rw [e, hs] at this; cases this
 have hg2 : ∀ o, (H.put ps o) s = _ := fun o => (put_ne H o hsp).trans hg
 have hs2 : ∀ o, (H.put ps o) st = _ := fun o => (put_ne H o (Ne.symm hne)).trans hs
 have k0 : kOk none (.string id) = true := rfl
 refine fn_run follows k_stPost rfl ?_
 simp only [oq, og, oe, oh, on, c_stPost, aretC_nil, List.zipIdx_cons, List.zipIdx_nil, List.map_cons, List.map_nil, Nat.zero_add]
 (try simp +decide -implicitDefEqProofs only [go_sem, hg, lay, oneOr, List.take_succ_cons, List.take_zero, List.drop_succ_cons, List.drop_zero, List.nil_append, List.cons_append, Option.getD_some, Nat.reduceAdd, Nat.reduceLeDiff, List.append_nil, and_self, List.all_cons, List.all_nil])
 refine stk_up' (b := ps) (c := pc) (l := smap pl) rfl hp (smap_ok pl) rfl ?_
 (try simp +decide -implicitDefEqProofs only [go_sem, hg2, mput_smap, mclk_smap, lay, oneOr, List.take_succ_cons, List.take_zero, List.drop_succ_cons, List.drop_zero, List.nil_append, List.cons_append, Option.getD_some, Nat.reduceAdd, Nat.reduceLeDiff, List.append_nil, and_self, List.all_cons, List.all_nil])
 refine stk_up' (b := st) (c := sc) (l := smap sl) rfl (hs2 _) (smap_ok sl) rfl ?_
 (try simp +decide -implicitDefEqProofs only [go_sem, mput_smap, mclk_smap, lay, oneOr, List.take_succ_cons, List.take_zero, List.drop_succ_cons, List.drop_zero, List.nil_append, List.cons_append, Option.getD_some, Nat.reduceAdd, Nat.reduceLeDiff, List.append_nil, and_self, List.all_cons, List.all_nil])
 have hput : sput id (.agg [.v (.string id), .v (.string raw), .v (.int .i64 0), .v (.string ByteArray.empty)]) pc pl = pl ++ [(id, pc, keptV id raw)] := sput_end hnew
 have hnt := hn.put id (.agg [.v (.string id), .v (.string raw), .v (.int .i64 0), .v (.string ByteArray.empty)])
 rw [hput] at hnt ⊢
 have hk : ∀ o o', KeptS d ps st H ((H.put ps o).put st o') := fun o o' c x hc h1 h2 h3 h4 => (put_ne _ _ h3).trans ((put_ne _ _ h2).trans hc)
 have hkx : ∀ c x, H c = some x → c ≠ ps → c ≠ st → ∀ o o', ((H.put ps o).put st o') c = some x := fun c x hc h2 h3 o o' => (put_ne _ _ h3).trans ((put_ne _ _ h2).trans hc)
 refine ⟨.inl rfl, _, .tup [], Sub.refl _, .refl _, ⟨pc, hkx _ _ h.here hsp hss _ _, hkx _ _ h.log hlp hls _ _, ⟨X, rows, n, ⟨hkx _ _ hd.here hdp hds _ _, hd.row.keep (fun b o e hb => hkx _ _ hb (fun e2 => ?_) (fun e2 => ?_) _ _), hd.few⟩, hu⟩, ⟨_, (put_ne _ _ hne).trans (put_self _ _ _), hnt⟩, ⟨_, _, put_self _ _ _⟩, by simp; omega, fun e he => ?_, hne, _, _, put_self _ _ _, fun e he => ?_⟩, hk _ _⟩
 ·subst e2; exact hd.row.off hp (fun _ _ _ e => by cases e) e
 ·subst e2; exact hd.row.off hs (fun _ _ _ e => by cases e) e
 ·rcases List.mem_append.1 he with he | he
  ·exact h.kv e he
  ·simp at he; subst he; exact ⟨raw, rfl, hraw, hid⟩
 ·rw [sget_sput]
  by_cases hx : e.1 = id
  ·rw [if_pos hx]
  ·rw [if_neg hx]
   rcases List.mem_append.1 he with he | he
   ·exact hwt e he
   ·simp at he; subst he; exact absurd rfl hx
def c_stoPost : AFn := ⟨3, 31, [6],
 .seq (.ops [oq 6 (.mv (.const (.int .i64 0)))])
 (.seq (.ops [oq 8 (.mv (.tmp 0)),
   oq 9 (.mv (.tmp 1)),
   oq 10 (.mv (.tmp 2)),
   oe 11 (.call 159 [(.tmp 8), (.tmp 9), (.tmp 10)]),
   oq 7 (.mv (.tmp 11))])
 (.seq (.seq (.ops [oq 12 (.mv (.tmp 7)),
   oq 13 (.bin .eql .num (.tmp 12) (.const (.int .i64 0)))])
 (.cond (.tmp 13)
  (.ops [oq 14 (.mv (.tmp 0)),
    oq 15 (.nck (.tmp 14)),
    oq 16 (.fad 0 1 (.tmp 15)),
    oq 17 (.ld false 1 (.tmp 16)),
    oq 18 (.mv (.tmp 1)),
    oq 19 (.bin .add .num (.const (.string ⟨#[112]⟩)) (.tmp 18)),
    oq 20 (.bin .add .num (.tmp 19) (.const (.string ⟨#[10]⟩))),
    oq 21 (.mv (.tmp 2)),
    oq 22 (.bin .add .num (.tmp 20) (.tmp 21)),
    oe 23 (.call 165 [(.tmp 17), (.tmp 22)]),
    oq 7 (.mv (.tmp 23))])
  (.skip)))
 (.seq (.seq (.ops [oq 24 (.mv (.tmp 7)),
   oq 25 (.bin .eql .num (.tmp 24) (.const (.int .i64 0)))])
 (.cond (.tmp 25)
  (.ops [oq 26 (.mv (.tmp 0)),
    oq 27 (.mv (.tmp 1)),
    oq 28 (.mv (.tmp 2)),
    oe 29 (.call 160 [(.tmp 26), (.tmp 27), (.tmp 28)])])
  (.skip)))
 (.seq (.ops [oq 30 (.mv (.tmp 7)),
   oq 6 (.mv (.tmp 30))])
 (.ret))))), []⟩
theorem k_stoPost : compF Tryz.prog 129 = some c_stoPost := by kernel_rfl
set_option maxHeartbeats 4000000 in
theorem stoPost_ok {W : World} {H : AHeap} {s l d ps st used : Nat} {pl : List (Str × Nat × AVal)} (h : Sto H s l d ps st used pl) (id raw : Str) (hid : id.size ≤ maxLen) :
  ACalls Tryz.prog W 129 [ptr s, .v (.string id), .v (.string raw)] H fun v H' => ∃ e pl', v = .v (.int .i64 e) ∧ Sto H' s l d ps st 60000 pl' ∧ KeptS d ps st H H' ∧ pl'.length ≤ pl.length + 1 ∧
   (mayE id raw pl = 0 → used + (5 + id.size + raw.size) ≤ 60000 → e = 0 ∧ ∃ c, pl' = pl ++ [(id, c, keptV id raw)]) := by
 have hmay := mayPost_ok (W := W) h id raw hid
 obtain ⟨X, rows, n, hd, hu⟩ := h.dev
 have hw : Sto H s l d ps st 60000 pl := ⟨h.here, h.log, ⟨X, rows, n, hd, hd.few⟩, h.posts, h.stale, h.few, h.kv, h.ne, h.wait⟩
 refine fn_run follows k_stoPost rfl ?_
 simp only [oq, og, oe, oh, on, c_stoPost, aretC_nil, List.zipIdx_cons, List.zipIdx_nil, List.map_cons, List.map_nil, Nat.zero_add]
 (try simp +decide -implicitDefEqProofs only [go_sem, lay, oneOr, List.take_succ_cons, List.take_zero, List.drop_succ_cons, List.drop_zero, List.nil_append, List.cons_append, Option.getD_some, Nat.reduceAdd, Nat.reduceLeDiff, List.append_nil, and_self, List.all_cons, List.all_nil])
 refine stk_call hmay fun v H1 hv => ?_
 obtain ⟨rfl, hk1⟩ := hv
 by_cases e0 : mayE id raw pl = 0
 ·have hall : idOk id = true ∧ sget id pl = none ∧ raw.size ≤ 2000 ∧ pl.length < 64 := by
   unfold mayE at e0
   split at e0
   ·cases e0
   ·rename_i h1
    split at e0
    ·cases e0
    ·rename_i h2
     split at e0
     ·cases e0
     ·rename_i h3
      split at e0
      ·cases e0
      ·exact ⟨by simpa using h1, by simpa using h2, by omega, by omega⟩
  obtain ⟨hi, hnew, hraw, hfew⟩ := hall
  obtain ⟨_, hsz⟩ := idOk_size hi
  have h1 := h.kept hk1
  have hg := h1.here
  unfold stoCells at hg
  have hd1 := hd.kept hk1
  have e1 : (⟨#[112]⟩ : ByteArray).size = 1 := rfl
  have e2 : (⟨#[10]⟩ : ByteArray).size = 1 := rfl
  have s1 : (⟨#[112]⟩ : ByteArray).size + id.size ≤ 9223372036854775807 := by omega
  have s2 : ((⟨#[112]⟩ : ByteArray) ++ id).size + (⟨#[10]⟩ : ByteArray).size ≤ 9223372036854775807 := by rw [ByteArray.size_append]; omega
  have s3 : ((⟨#[112]⟩ : ByteArray) ++ id ++ (⟨#[10]⟩ : ByteArray)).size + raw.size ≤ 9223372036854775807 := by rw [ByteArray.size_append, ByteArray.size_append]; omega
  have hts : ((⟨#[112]⟩ : ByteArray) ++ id ++ (⟨#[10]⟩ : ByteArray) ++ raw).size = 2 + id.size + raw.size := by rw [ByteArray.size_append, ByteArray.size_append, ByteArray.size_append]; omega
  have hap := flApp_ok (W := W) h1.log hd1 ((⟨#[112]⟩ : ByteArray) ++ id ++ (⟨#[10]⟩ : ByteArray) ++ raw) (by omega)
  rw [hts] at hap
  (try simp +decide -implicitDefEqProofs only [go_sem, e0, hg, s1, s2, s3, lay, oneOr, List.take_succ_cons, List.take_zero, List.drop_succ_cons, List.drop_zero, List.nil_append, List.cons_append, Option.getD_some, Nat.reduceAdd, Nat.reduceLeDiff, List.append_nil, and_self, List.all_cons, List.all_nil])
  refine ⟨by show 1 + id.size ≤ _; omega, by show 1 + id.size + 1 ≤ _; omega, by show 1 + id.size + 1 + raw.size ≤ _; omega, ?_⟩
  refine stk_call hap fun v H2 hv => ?_
  obtain ⟨e, X2, rows2, n2, rfl, hd2, hk2, he⟩ := hv
  have hks : KeptS d ps st H1 H2 := fun c o hc h1' h2' h3' h4' => hk2 c o hc (fun hb => by
   rcases hb with hb | hb
   ·exact h1' hb
   ·have := hd1.row.blk2' hb; rw [this] at hc; cases hc; exact h4' _ rfl)
  have hx1 : ∀ c o, H1 c = some o → c ≠ d → (∀ rows, o ≠ .buf tU8 1 rows) → H2 c = some o := fun c o hc h1' h4' => hk2 c o hc (fun hb => by
   rcases hb with hb | hb
   ·exact h1' hb
   ·have := hd1.row.blk2' hb; rw [this] at hc; cases hc; exact h4' _ rfl)
  have hst2 : Sto H2 s l d ps st 60000 pl := by
   obtain ⟨pc, hp, hn⟩ := h1.posts
   obtain ⟨sl, sc, hs, hwt⟩ := h1.wait
   have hdh := hd1.here
   exact ⟨hx1 _ _ h1.here (fun e => by have := h1.here; rw [e, hdh] at this; exact absurd this (by unfold devCells stoCells; simp)) (fun _ e => by cases e), hx1 _ _ h1.log (fun e => by have := h1.log; rw [e, hdh] at this; exact absurd this (by unfold devCells; simp)) (fun _ e => by cases e),
    ⟨X2, rows2, n2, hd2, hd2.few⟩, ⟨pc, hx1 _ _ hp (fun e => by rw [e, hdh] at hp; cases hp) (fun _ e => by cases e), hn⟩, ⟨sl, sc, hx1 _ _ hs (fun e => by rw [e, hdh] at hs; cases hs) (fun _ e => by cases e)⟩, h1.few, h1.kv, h1.ne, sl, sc, hx1 _ _ hs (fun e => by rw [e, hdh] at hs; cases hs) (fun _ e => by cases e), hwt⟩
  have hK : KeptS d ps st H H2 := KeptS.trans (KeptS.of hk1) hks
  by_cases e00 : e = 0
  ·subst e00
   (try simp +decide -implicitDefEqProofs only [go_sem, lay, oneOr, List.take_succ_cons, List.take_zero, List.drop_succ_cons, List.drop_zero, List.nil_append, List.cons_append, Option.getD_some, Nat.reduceAdd, Nat.reduceLeDiff, List.append_nil, and_self, List.all_cons, List.all_nil])
   refine stk_call (stPost_ok hst2 id raw hi hraw hnew hfew) fun v H3 hv => ?_
   obtain ⟨⟨c, h3⟩, hk3⟩ := hv
   (try simp +decide -implicitDefEqProofs only [go_sem, lay, oneOr, List.take_succ_cons, List.take_zero, List.drop_succ_cons, List.drop_zero, List.nil_append, List.cons_append, Option.getD_some, Nat.reduceAdd, Nat.reduceLeDiff, List.append_nil, and_self, List.all_cons, List.all_nil])
   exact ⟨.inr rfl, _, _, Sub.refl _, .refl _, 0, _, rfl, h3, hK.trans hk3, by simp, fun _ _ => ⟨rfl, c, rfl⟩⟩
  ·have d0 : decide (e = 0) = false := decide_eq_false e00
   (try simp +decide -implicitDefEqProofs only [go_sem, d0, lay, oneOr, List.take_succ_cons, List.take_zero, List.drop_succ_cons, List.drop_zero, List.nil_append, List.cons_append, Option.getD_some, Nat.reduceAdd, Nat.reduceLeDiff, List.append_nil, and_self, List.all_cons, List.all_nil])
   exact ⟨.inr rfl, _, _, Sub.refl _, .refl _, e, pl, rfl, hst2, hK, by omega, fun _ hu2 => absurd (he (by omega) (by omega)) e00⟩
 ·have d0 : decide (mayE id raw pl = 0) = false := decide_eq_false e0
  (try simp +decide -implicitDefEqProofs only [go_sem, d0, lay, oneOr, List.take_succ_cons, List.take_zero, List.drop_succ_cons, List.drop_zero, List.nil_append, List.cons_append, Option.getD_some, Nat.reduceAdd, Nat.reduceLeDiff, List.append_nil, and_self, List.all_cons, List.all_nil])
  exact ⟨.inr rfl, _, _, Sub.refl _, .refl _, _, pl, rfl, hw.kept hk1, KeptS.of hk1, by omega, fun e => absurd e e0⟩
end Go.Proofs.YtfaodacmdlnabaaGreatDoor.M
