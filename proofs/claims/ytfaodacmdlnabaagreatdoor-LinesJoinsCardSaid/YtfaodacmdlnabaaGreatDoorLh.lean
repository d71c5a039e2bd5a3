/-
 Lines: the steps of a script's text.
-/
import Derived.Test.YtfaodacmdlnabaaGreatDoorLg
namespace Go.Proofs.YtfaodacmdlnabaaGreatDoor.M
open Go.RowKit
set_option linter.unusedVariables false
set_option linter.unusedSimpArgs false
def linesOf : List UInt8 → List (List UInt8)
 | [] => [[]]
 | c :: r => if c = 10 then [] :: linesOf r else match linesOf r with
  | [] => [[c]]
  | h :: t => (c :: h) :: t
theorem linesOf_cut : ∀ (h t : List UInt8), (10 : UInt8) ∉ h → linesOf (h ++ 10 :: t) = h :: linesOf t
 | [], t, _ => by rw [List.nil_append, linesOf, if_pos rfl]
 | c :: h, t, hn => by
  rw [List.cons_append, linesOf, if_neg (fun e => hn (by simp [e])), linesOf_cut h t (fun e => hn (by simp [e]))]
theorem linesOf_one : ∀ (l : List UInt8), (10 : UInt8) ∉ l → linesOf l = [l]
 | [], _ => rfl
 | c :: h, hn => by
  rw [linesOf, if_neg (fun e => hn (by simp [e])), linesOf_one h (fun e => hn (by simp [e]))]
def lnStep (h : List UInt8) : Option Step := if lnOf (stepP (mkS h)) = some (mkS h ++ nlS) then some (stepP (mkS h)) else none
def lnOk (h : List UInt8) : Prop := doOf (cutT (mkS h) spS).1 = 3 → (plainD (cutT (mkS h) spS).2.1).size ≤ 19000
def parseV : Except Nat (List Step) → AVal
 | .ok l => .tup [.sl false 14 (l.map stepCells), .v (.int .i64 0), .v (.int .i64 (-1))]
 | .error k => .tup [.sl false 14 [], .v (.int .i64 2), .v (.int .i64 k)]
theorem plainL_len : ∀ (n : Nat) (l r : List UInt8), l.length ≤ n → plainL l = some r → r.length ≤ l.length
 | 0, l, r, hn, h => by
  obtain rfl : l = [] := List.length_eq_zero_iff.1 (by omega)
  cases h; exact Nat.le_refl _
 | n + 1, l, r, hn, h => by
  rw [plainL.eq_def] at h
  split at h
  ·cases h; exact Nat.le_refl _
  ·cases h
  ·rename_i d q
   simp only [List.length_cons] at hn ⊢
   have ih := plainL_len n q
   split at h
   ·cases hq : plainL q with
    | none => rw [hq] at h; cases h
    | some u => rw [hq] at h; cases h; have := ih u (by omega) hq; simp; omega
   ·split at h
    ·cases hq : plainL q with
     | none => rw [hq] at h; cases h
     | some u => rw [hq] at h; cases h; have := ih u (by omega) hq; simp; omega
    ·cases h
  ·rename_i c q _ _
   simp only [List.length_cons] at hn ⊢
   have ih := plainL_len n q
   cases hq : plainL q with
   | none => rw [hq] at h; cases h
   | some u => rw [hq] at h; cases h; have := ih u (by omega) hq; simp; omega
theorem plainD_size (s : Str) : (plainD s).size ≤ s.size := by
 unfold plainD
 cases h : plainL (bl s) with
 | none => exact Nat.zero_le _
 | some r =>
  have := plainL_len _ _ _ (Nat.le_refl _) h
  rw [bl_len] at this
  dsimp only
  rw [mkS_size]; exact this
theorem pol0_right : rightP pol0 = false := by decide
theorem polD_fits {t : Str} (h : t.size ≤ 19000) : Fits (polD t) := by
 unfold polD
 split
 ·exact (readP_small t).fits (by omega) (by omega)
 ·exact (pol0_small 0 0).fits (by omega) (by omega)
theorem polD_text {t : Str} (h : t.size ≤ 19000) (hr : rightP (polD t) = true) : (textP (polD t)).size ≤ 100000000 := by
 unfold polD at hr ⊢
 split at hr
 ·rename_i hc
  rw [if_pos hc, hc.2]; omega
 ·rw [pol0_right] at hr; cases hr
theorem pol0_fits : Fits pol0 := (pol0_small 0 0).fits (by omega) (by omega)
theorem stepP_fits {h : List UInt8} (hs : (mkS h).size ≤ 1000000) (ho : lnOk h) : StepFits (stepP (mkS h)) := by
 unfold lnOk at ho
 have hz1 : (cutT (mkS h) spS).2.1.size ≤ (mkS h).size := (cutT_size (mkS h) 32).2
 unfold stepP
 generalize (cutT (mkS h) spS).1 = w at ho ⊢
 generalize (cutT (mkS h) spS).2.1 = tail at ho hz1 ⊢
 have hy2 : (cutT tail spS).2.1.size ≤ tail.size := (cutT_size tail 32).2
 generalize (cutT tail spS).1 = first
 generalize (cutT tail spS).2.1 = more at hy2 ⊢
 have hx1 : (cutT more spS).1.size ≤ more.size := (cutT_size more 32).1
 have hx2 : (cutT more spS).2.1.size ≤ more.size := (cutT_size more 32).2
 have hx3 := plainD_size (cutT more spS).2.1
 have h0 : (ByteArray.empty : Str).size ≤ 100000000 := Nat.zero_le _
 have hr0 : rightP pol0 = true → (textP pol0).size ≤ 100000000 := fun e => by rw [pol0_right] at e; cases e
 split
 ·rename_i h3
  have := ho h3
  exact ⟨h0, h0, polD_fits this, polD_text this⟩
 split
 ·exact ⟨h0, h0, pol0_fits, hr0⟩
 split
 ·exact ⟨h0, h0, pol0_fits, hr0⟩
 split
 ·exact ⟨Nat.le_trans hx1 (by omega), Nat.le_trans hx3 (by omega), pol0_fits, hr0⟩
 ·exact ⟨h0, h0, pol0_fits, hr0⟩
theorem stepGood (l : List Step) : Good 14 (l.map stepCells) := by
 intro r hr
 obtain ⟨s, _, rfl⟩ := List.mem_map.1 hr
 refine ⟨rfl, fun x hx => ?_⟩
 simp only [stepCells, polCells, List.mem_append, List.mem_cons, List.not_mem_nil, or_false] at hx
 rcases hx with (h | h | h | h | h) | (h | h | h | h | h | h | h | h | h) <;> subst h <;> rfl
theorem FZ.tup3 {H H' : AHeap} {x y z x' y' z' : AVal} (h1 : FZ H H' x x') (h2 : FZ H H' y y') (h3 : FZ H H' z z') : FZ H H' (.tup [x, y, z]) (.tup [x', y', z']) := .tup rfl fun j hj hj' => by
 rcases j with _ | _ | _ | j
 ·exact h1
 ·exact h2
 ·exact h3
 ·simp at hj; omega
theorem mkS_nil_iff {s : Str} : s = ByteArray.empty ↔ bl s = [] := ⟨fun h => by rw [h]; rfl, fun h => bl_inj (by rw [h]; rfl)⟩
def c_lnParse : AFn := ⟨1, 50, [2, 3, 4],
 .seq (.ops [oq 2 (.mv (.const (.slice none 0 0))),
   oq 3 (.mv (.const (.int .i64 0))),
   oq 4 (.mv (.const (.int .i64 0)))])
 (.seq (.seq (.ops [oq 12 (.mv (.tmp 0)),
   oq 13 (.len true (.tmp 12)),
   oq 14 (.bin .gtr .num (.tmp 13) (.const (.int .i64 100000)))])
 (.cond (.tmp 14)
  (.seq (.ops [oq 2 (.mv (.const (.slice none 0 0))),
    oq 3 (.mv (.const (.int .i64 4))),
    oq 4 (.mv (.const (.int .i64 0)))])
  (.ret))
  (.skip)))
 (.seq (.ops [oq 5 (.mv (.const (.slice none 0 0)))])
 (.seq (.block 0 (.loop (.seq (.seq (.ops [oq 15 (.mv (.tmp 0)),
     oq 16 (.bin .neq .num (.tmp 15) (.const (.string ByteArray.empty)))])
   (.cond (.tmp 16)
    (.skip)
    (.exit 0)))
   (.block 1 (.seq (.ops [oq 18 (.mv (.tmp 0)),
      oe 19 (.call 20 [(.tmp 18), (.const (.string ⟨#[10]⟩))]),
      oq 17 (.mv (.tmp 19)),
      oq 20 (.ext (.tmp 17) 0),
      oq 21 (.ext (.tmp 17) 1),
      oq 22 (.ext (.tmp 17) 2),
      oq 6 (.mv (.tmp 20)),
      oq 7 (.mv (.tmp 21)),
      oq 8 (.mv (.tmp 22))])
    (.seq (.ops [oq 23 (.mv (.tmp 6)),
      oe 24 (.call 21 [(.tmp 23)]),
      oe 9 (.alloc 38 [(.int .i64 0), (.int .i64 0), (.int .i64 0), (.string ByteArray.empty), (.string ByteArray.empty), (.int .i64 0), (.slice none 0 0), (.slice none 0 0), (.slice none 0 0), (.slice none 0 0), (.slice none 0 0), (.int .i64 0), (.int .i64 0), (.int .i64 0)]),
      on (.st 14 (.tmp 9) (.tmp 24))])
    (.seq (.seq (.ops [oq 26 (.ld true 14 (.tmp 9)),
      oe 27 (.call 17 [(.tmp 26)]),
      oq 25 (.mv (.tmp 27)),
      oq 28 (.ext (.tmp 25) 0),
      oq 29 (.ext (.tmp 25) 1),
      oq 10 (.mv (.tmp 28)),
      oq 11 (.mv (.tmp 29))])
    (.seq (.ops [oq 30 (.mv (.tmp 8)),
      oq 31 (.un .not (.tmp 30)),
      oq 32 (.mv (.tmp 31)),
      og 33 32 false (.mv (.tmp 11)),
      og 34 32 false (.un .not (.tmp 33)),
      oq 35 (.pick (.tmp 32) (.const (.bool true)) (.tmp 34)),
      oq 36 (.mv (.tmp 35)),
      og 37 36 false (.mv (.tmp 10)),
      og 38 36 false (.mv (.tmp 6)),
      og 39 36 false (.bin .add .num (.tmp 38) (.const (.string ⟨#[10]⟩))),
      og 40 36 false (.bin .neq .num (.tmp 37) (.tmp 39)),
      oq 41 (.pick (.tmp 36) (.const (.bool true)) (.tmp 40))])
    (.cond (.tmp 41)
     (.seq (.ops [oq 42 (.mv (.tmp 5)),
       oq 43 (.len false (.tmp 42)),
       oq 2 (.mv (.const (.slice none 0 0))),
       oq 3 (.mv (.const (.int .i64 2))),
       oq 4 (.mv (.tmp 43))])
     (.ret))
     (.skip))))
    (.seq (.ops [oq 44 (.mv (.tmp 5)),
      oq 45 (.ld true 14 (.tmp 9)),
      oe 46 (.bsl 38 14 [(.tmp 45)]),
      oe 47 (.app 38 14 208 false (.tmp 44) (.tmp 46)),
      oq 5 (.mv (.tmp 47))])
    (.ops [oq 48 (.mv (.tmp 7)),
      oq 0 (.mv (.tmp 48))])))))))))
 (.seq (.ops [oq 49 (.mv (.tmp 5)),
   oq 2 (.mv (.tmp 49)),
   oq 3 (.mv (.const (.int .i64 0))),
   oq 4 (.mv (.const (.int .i64 (-1))))])
 (.ret))))), []⟩
theorem k_lnParse : compF Tryz.prog 11 = some c_lnParse := by kernel_rfl
set_option maxHeartbeats 8000000 in
theorem parse_ok {W : World} (L : Laid W) (E : Errs W) (s : Str) (hs : s.size ≤ 100000) (hO : ∀ h ∈ linesOf (bl s), lnOk h) : ACalls Tryz.prog W 11 [.v (.string s)] AHeap.none fun v _ => v = parseV (parseS lnStep (bl s)) := by
 refine fn_run follows k_lnParse rfl ?_
 simp only [oq, og, oe, oh, on, c_lnParse, aretC_nil, List.zipIdx_cons, List.zipIdx_nil, List.map_cons, List.map_nil, Nat.zero_add]
 have g0 : ¬ (s.size : Int) > 100000 := by omega
 (try simp +decide -implicitDefEqProofs only [go_sem, g0])
 refine stk_up (α := Str × List Step × AVal × AHeap) s.size (fun i a => ⟨[(0, .v (.string a.1)), (5, a.2.2.1)], a.2.2.2⟩) (fun i a => RowO a.2.2.2 tStep 14 a.2.2.1 (a.2.1.map stepCells) ∧ parseS lnStep (bl s) = parseL lnStep ((bl a.1).length + 1) (bl a.1) a.2.1 ∧ a.1.size + i ≤ s.size ∧ (∀ h ∈ linesOf (bl a.1), lnOk h) ∧ a.2.1.length ≤ i) (s, [], .v (.slice none 0 0), AHeap.none) (Weak.list _ (Sub.refl _) (by (try simp +decide -implicitDefEqProofs only [go_sem]))) ⟨.nil, rfl, Nat.le_refl _, hO, Nat.le_refl _⟩ ?_
 rintro i ⟨s', out, x, H⟩ hi ⟨hrow, hp, hz, ho, hlen⟩
 dsimp only at hrow hp hz ho hlen ⊢
 have hbad : ∀ (v : AVal), parseS lnStep (bl s) = .error out.length → v = .tup [.sl false 14 [], .v (.int .i64 2), .v (.int .i64 out.length)] → v = parseV (parseS lnStep (bl s)) := fun v h e => by rw [h, e]; rfl
 have hx : (x = .v (.slice none 0 0) ∧ out.length = 0) ∨ ∃ g1, x = .bs g1 14 out.length := by
  generalize hm : out.map stepCells = rows at hrow
  have hml : rows.length = out.length := by rw [← hm]; simp
  cases hrow with
  | nil => exact .inl ⟨rfl, hml.symm⟩
  | @bs g1 n1 _ h1 h2 => exact .inr ⟨g1, by rw [h2, hml]⟩
 by_cases he : s' = ByteArray.empty
 ·have e1 : decide (s' ≠ ByteArray.empty) = false := by simp [he]
  (try simp +decide -implicitDefEqProofs only [go_sem, e1])
  refine ⟨.inr rfl, AHeap.none, _, Sub.none _, .tup3 (hrow.row.fz (stepGood out) (fun b _ => rfl)) (.refl _) (.refl _), ?_⟩
  rw [hp, mkS_nil_iff.1 he, parseL, if_pos rfl]; rfl
 have e1 : decide (s' ≠ ByteArray.empty) = true := by simp [he]
 have hne : bl s' ≠ [] := fun h => he (mkS_nil_iff.2 h)
 rw [parseL, if_neg hne] at hp
 (try simp +decide -implicitDefEqProofs only [go_sem, e1])
 refine stk_pure (cut_ok L s' ⟨#[10]⟩ (by omega)) fun v hv => ?_
 subst hv
 have hcut : cutT s' ⟨#[10]⟩ = (mkS (Lib.cut (bl s') [10]).1, mkS (Lib.cut (bl s') [10]).2.1, (Lib.cut (bl s') [10]).2.2) := rfl
 rw [hcut]
 rcases cut_byte 10 (bl s') with ⟨e, hno⟩ | ⟨h, t, e2, e3, e4⟩
 ·rw [e] at hp ⊢
  rw [if_neg (by simp)] at hp
  dsimp only
  have hok : lnOk (bl s') := ho _ (by rw [linesOf_one _ hno]; simp)
  have hsz : (mkS (bl s')).size ≤ 1000000 := by rw [mkS_size, bl_len]; omega
  (try simp +decide -implicitDefEqProofs only [go_sem])
  refine stk_pure (stepOf_ok L E (mkS (bl s')) hsz hok) fun v hv => ?_
  subst hv
  have hF := stepP_fits hsz hok
  generalize stepP (mkS (bl s')) = X at hF ⊢
  (try simp +decide -implicitDefEqProofs only [go_sem, stepCells, polCells, lay, oneOr, List.take_succ_cons, List.take_zero, List.drop_succ_cons, List.drop_zero, List.nil_append, List.cons_append, Option.getD_some, Nat.reduceAdd, Nat.reduceLeDiff, List.append_nil, and_self, List.all_cons, List.all_nil])
  rw [stk_alloc]
  intro g hg
  (try simp +decide -implicitDefEqProofs only [go_sem, hp_self, lay, oneOr, List.take_succ_cons, List.take_zero, List.drop_succ_cons, List.drop_zero, List.nil_append, List.cons_append, Option.getD_some, Nat.reduceAdd, Nat.reduceLeDiff, List.append_nil, and_self, List.all_cons, List.all_nil])
  refine stk_pure (lineOf_ok L X hF) fun v hv => ?_
  obtain ⟨u, rfl, hu⟩ := hv
  rcases hx with ⟨rfl, hx0⟩ | ⟨g1, rfl⟩
  all_goals (
   (try simp +decide -implicitDefEqProofs only [go_sem])
   refine ⟨.inr rfl, AHeap.none, _, Sub.none _, .tup3 (.nil 14) (.refl _) (.refl _), hbad _ hp ?_⟩)
  ·rw [hx0]; rfl
  ·rfl
 ·rw [e4] at hp ⊢
  rw [if_pos rfl] at hp
  dsimp only at hp ⊢
  have hlines : linesOf (bl s') = h :: linesOf t := by rw [e2]; exact linesOf_cut h t e3
  have hok : lnOk h := ho _ (by rw [hlines]; simp)
  have hl0 : s'.size = h.length + (t.length + 1) := by rw [← bl_len, e2]; simp
  have hsz : (mkS h).size ≤ 1000000 := by rw [mkS_size]; omega
  have hlt : i < s.size := by omega
  rw [show lnStep h = if lnOf (stepP (mkS h)) = some (mkS h ++ nlS) then some (stepP (mkS h)) else none from rfl] at hp
  (try simp +decide -implicitDefEqProofs only [go_sem])
  refine stk_pure (stepOf_ok L E (mkS h) hsz hok) fun v hv => ?_
  subst hv
  have hF := stepP_fits hsz hok
  generalize stepP (mkS h) = X at hF hp ⊢
  (try simp +decide -implicitDefEqProofs only [go_sem, stepCells, polCells, lay, oneOr, List.take_succ_cons, List.take_zero, List.drop_succ_cons, List.drop_zero, List.nil_append, List.cons_append, Option.getD_some, Nat.reduceAdd, Nat.reduceLeDiff, List.append_nil, and_self, List.all_cons, List.all_nil])
  rw [stk_alloc]
  intro g hg
  have hg' : H g = none := hg
  have hoff : blkOf x ≠ some g := fun e => by have := hrow.blk e; rw [hg'] at this; cases this
  (try simp +decide -implicitDefEqProofs only [go_sem, hp_self, lay, oneOr, List.take_succ_cons, List.take_zero, List.drop_succ_cons, List.drop_zero, List.nil_append, List.cons_append, Option.getD_some, Nat.reduceAdd, Nat.reduceLeDiff, List.append_nil, and_self, List.all_cons, List.all_nil])
  refine stk_pure (lineOf_ok L X hF) fun v hv => ?_
  obtain ⟨u, rfl, hu⟩ := hv
  have s2 : (⟨#[10]⟩ : ByteArray).size = 1 := rfl
  have s3 : (mkS h).size + 1 ≤ 9223372036854775807 := by omega
  cases hl : lnOf X with
  | none =>
   rw [hl, if_neg (by simp)] at hp
   rcases hx with ⟨rfl, hx0⟩ | ⟨g1, rfl⟩
   all_goals (
    (try simp +decide -implicitDefEqProofs only [go_sem, Option.isSome])
    refine ⟨.inr rfl, AHeap.none, _, Sub.none _, .tup3 (.nil 14) (.refl _) (.refl _), hbad _ hp ?_⟩)
   ·rw [hx0]; rfl
   ·rfl
  | some u' =>
   obtain rfl := hu u' hl
   by_cases hu2 : u = mkS h ++ (⟨#[10]⟩ : Str)
   ·have e5 : decide (u ≠ mkS h ++ (⟨#[10]⟩ : Str)) = false := by simp [hu2]
    rw [hl, if_pos (by rw [hu2]; rfl)] at hp
    dsimp only at hp
    (try simp +decide -implicitDefEqProofs only [go_sem, Option.isSome, e5, s2, s3, hp_self, stepCells, polCells, lay, oneOr, List.take_succ_cons, List.take_zero, List.drop_succ_cons, List.drop_zero, List.nil_append, List.cons_append, Option.getD_some, Nat.reduceAdd, Nat.reduceLeDiff, List.append_nil, and_self, List.all_cons, List.all_nil])
    refine stk_appO (rows := out.map stepCells) (by first | exact hrow.put hoff | exact (hrow.put hoff).put hoff) (by rfl) (by simp only [List.length_map, List.length_cons, List.length_nil]; omega) fun x2 H2 hr2 _ => ?_
    (try simp +decide -implicitDefEqProofs only [go_sem, hlt])
    refine ⟨(mkS t, out ++ [X], x2, H2), Weak.list _ (Sub.refl _) (by (try simp +decide -implicitDefEqProofs only [go_sem])), by rw [List.map_append]; exact hr2, ?_, by rw [mkS_size]; omega, ?_, by simp; omega⟩
    ·dsimp only
     rw [hp, bl_mkS]
     exact parseL_fuel _ _ _ _ _ (by rw [bl_len]; omega) (by omega)
    ·rw [bl_mkS]
     exact fun h' hh => ho h' (by rw [hlines]; simp [hh])
   ·have e5 : decide (u ≠ mkS h ++ (⟨#[10]⟩ : Str)) = true := by simp [hu2]
    rw [hl, if_neg (by intro e; cases e; exact hu2 rfl)] at hp
    rcases hx with ⟨rfl, hx0⟩ | ⟨g1, rfl⟩
    all_goals (
     (try simp +decide -implicitDefEqProofs only [go_sem, Option.isSome, e5, s2, s3])
     refine ⟨.inr rfl, AHeap.none, _, Sub.none _, .tup3 (.nil 14) (.refl _) (.refl _), hbad _ hp ?_⟩)
    ·rw [hx0]; rfl
    ·rfl
end Go.Proofs.YtfaodacmdlnabaaGreatDoor.M
