/-
 Lines: what was escaped, read; what an ID is; how lines begin; whether a policy is none.
-/
import Derived.Test.YtfaodacmdlnabaaGreatDoorLb
import Derived.Test.YtfaodacmdlnabaaGreatDoorNb
import Derived.Test.YtfaodacmdlnabaaGreatDoorPread
import Derived.Test.YtfaodacmdlnabaaGreatDoorPb
import Derived.Test.YtfaodacmdlnabaaGreatDoorPsame
namespace Go.Proofs.YtfaodacmdlnabaaGreatDoor.M
open Go.RowKit
set_option linter.unusedVariables false
set_option linter.unusedSimpArgs false
def plainR (s : Str) : AVal := match plainL (bl s) with
 | some l => .tup [.v (.string (mkS l)), .v (.bool true)]
 | none => .tup [.v (.string ByteArray.empty), .v (.bool false)]
theorem hasPre_one (l : List UInt8) (d : UInt8) : hasPre (mkS l) ⟨#[d]⟩ = decide (l.head? = some d) := by
 unfold hasPre
 have hz : (⟨#[d]⟩ : Str).size = 1 := rfl
 rw [hz, mkS_size]
 cases l with
 | nil => rfl
 | cons c r =>
  have he : (mkS (c :: r)).extract 0 1 = mkS [c] := by
   apply bl_inj
   unfold bl mkS
   rw [ByteArray.data_extract, Array.toList_extract]
   rfl
  rw [he]
  have h1 : decide (1 ≤ (c :: r).length) = true := by simp
  rw [h1, Bool.true_and]
  have : (mkS [c] = (⟨#[d]⟩ : Str)) ↔ c = d := ⟨fun h => by
   have := congrArg bl h
   simpa [bl, mkS] using this, fun h => by rw [h]; rfl⟩
  simp only [this, List.head?_cons, Option.some.injEq]
theorem cut_one (c : UInt8) (r : List UInt8) : cutS (mkS (c :: r)) 1 (mkS (c :: r)).size = mkS r := by
 apply bl_inj
 unfold cutS bl
 rw [ByteArray.data_extract, Array.toList_extract]
 simp only [mkS, Int.toNat_one, Int.toNat_natCast, List.extract_eq_take_drop]
 show List.take _ (List.drop 1 (c :: r)) = r
 rw [List.drop_succ_cons, List.drop_zero]
 refine List.take_of_length_le ?_
 show r.length ≤ (mkS (c :: r)).size - 1
 rw [mkS_size]; simp
def c_lnPlain : AFn := ⟨1, 29, [2, 3],
 .seq (.ops [oq 2 (.mv (.const (.string ByteArray.empty))),
   oq 3 (.mv (.const (.bool false)))])
 (.seq (.ops [oe 4 (.alloc 45 [(.pointer none), (.slice none 0 0)])])
 (.block 0 (.loop (.block 1 (.seq (.ops [oq 9 (.mv (.tmp 0)),
           oe 10 (.call 20 [(.tmp 9), (.const (.string ⟨#[92]⟩))]),
           oq 8 (.mv (.tmp 10)),
           oq 11 (.ext (.tmp 8) 0),
           oq 12 (.ext (.tmp 8) 1),
           oq 13 (.ext (.tmp 8) 2),
           oq 5 (.mv (.tmp 11)),
           oq 6 (.mv (.tmp 12)),
           oq 7 (.mv (.tmp 13))])
    (.seq (.ops [oq 14 (.mv (.tmp 5)),
      oe 15 (.call 18 [(.tmp 4), (.tmp 14)])])
    (.seq (.seq (.ops [oq 16 (.mv (.tmp 7)),
      oq 17 (.un .not (.tmp 16))])
    (.cond (.tmp 17)
     (.seq (.ops [oe 18 (.call 19 [(.tmp 4)]),
       oq 2 (.mv (.tmp 18)),
       oq 3 (.mv (.const (.bool true)))])
     (.ret))
     (.skip)))
    (.seq (.block 2 (.seq (.ops [oq 20 (.mv (.tmp 6)),
       oe 21 (.call 65 [(.tmp 20), (.const (.string ⟨#[110]⟩))]),
       oq 19 (.mv (.tmp 21))])
     (.cond (.tmp 19)
      (.ops [oe 22 (.call 66 [(.tmp 4), (.const (.int .u8 10))])])
      (.seq (.ops [oq 24 (.mv (.tmp 6)),
        oe 25 (.call 65 [(.tmp 24), (.const (.string ⟨#[92]⟩))]),
        oq 23 (.mv (.tmp 25))])
      (.cond (.tmp 23)
       (.ops [oe 26 (.call 66 [(.tmp 4), (.const (.int .u8 92))])])
       (.seq (.ops [oq 2 (.mv (.const (.string ByteArray.empty))),
         oq 3 (.mv (.const (.bool false)))])
       (.ret)))))))
    (.ops [oq 27 (.mv (.tmp 6)),
      oq 28 (.ssl (.tmp 27) (some (.const (.int .i64 1))) none),
      oq 0 (.mv (.tmp 28))]))))))))), []⟩
theorem k_lnPlain : compF Tryz.prog 33 = some c_lnPlain := by kernel_rfl
set_option maxHeartbeats 4000000 in
theorem plain_ok {W : World} (L : Laid W) (s : Str) (hs : s.size ≤ 100000000) : ACalls Tryz.prog W 33 [.v (.string s)] AHeap.none fun v _ => v = plainR s := by
 refine fn_run follows k_lnPlain rfl ?_
 simp only [oq, og, oe, oh, on, c_lnPlain, aretC_nil, List.zipIdx_cons, List.zipIdx_nil, List.map_cons, List.map_nil, Nat.zero_add]
 (try simp +decide -implicitDefEqProofs only [go_sem])
 rw [stk_alloc]
 intro b hb
 (try simp +decide -implicitDefEqProofs only [go_sem])
 refine stk_up (α := AHeap × Str × Str) s.size (fun i a => ⟨[(4, .v (.pointer (some ⟨b, 0, none⟩))), (0, .v (.string a.2.1))], a.1⟩) (fun i a => BuildH a.1 b a.2.2 ∧ plainL (bl s) = (plainL (bl a.2.1)).map (bl a.2.2 ++ ·) ∧ a.2.1.size + i ≤ s.size ∧ a.2.2.size + a.2.1.size ≤ s.size) (_, s, ByteArray.empty) (Weak.list _ (Sub.refl _) (by (try simp +decide -implicitDefEqProofs only [go_sem]))) ?_ ?_
 ·refine ⟨⟨none, _, hp_self _ _ _, .inl rfl, .nil⟩, ?_, Nat.le_refl _, Nat.le_of_eq (Nat.zero_add _)⟩
  show plainL (bl s) = (plainL (bl s)).map (fun x => [] ++ x)
  cases plainL (bl s) <;> rfl
 rintro i ⟨H, s', t⟩ hi ⟨hB, hP, hz, ht⟩
 dsimp only at hB hP hz ht ⊢
 (try simp +decide -implicitDefEqProofs only [go_sem])
 refine stk_pure (cut_ok L s' ⟨#[92]⟩ (by omega)) fun v hv => ?_
 subst hv
 have hcut : cutT s' ⟨#[92]⟩ = (mkS (Lib.cut (bl s') [92]).1, mkS (Lib.cut (bl s') [92]).2.1, (Lib.cut (bl s') [92]).2.2) := rfl
 rw [hcut]
 rcases cut_byte 92 (bl s') with ⟨e, hno⟩ | ⟨h, tl, e1, e2, e3⟩
 ·rw [e]
  dsimp only
  rw [mkS_bl]
  (try simp +decide -implicitDefEqProofs only [go_sem])
  refine stk_call (write_ok (s := s') hB (by omega)) fun v H' hv => ?_
  (try simp +decide -implicitDefEqProofs only [go_sem])
  refine stk_call (bstrA_ok hv) fun v H2 hv => ?_
  subst hv
  (try simp +decide -implicitDefEqProofs only [go_sem])
  refine aret_pure (.inr rfl) ?_; simp +decide only [retOf, tget, if_true, if_false, ↓reduceIte, List.map_cons, List.map_nil]
  unfold plainR
  have := plainL_skip (bl s') [] hno
  rw [List.append_nil] at this
  rw [hP, this]
  show _ = AVal.tup [.v (.string (mkS (bl t ++ (bl s' ++ [])))), _]
  rw [List.append_nil, ← bl_app, mkS_bl]
 ·rw [e3]
  dsimp only
  have hlen : s'.size = h.length + (tl.length + 1) := by rw [← bl_len, e1]; simp
  have hpl : plainL (bl s') = (plainL (92 :: tl)).map (h ++ ·) := by rw [e1, plainL_skip h _ e2]
  (try simp +decide -implicitDefEqProofs only [go_sem])
  refine stk_call (write_ok (s := mkS h) hB (by rw [mkS_size]; omega)) fun v H' hv => ?_
  clear hB
  (try simp +decide -implicitDefEqProofs only [go_sem])
  refine stk_pure (hasPre_ok (mkS tl) ⟨#[110]⟩) fun v hv2 => ?_
  subst hv2
  rw [hasPre_one]
  have htS : (t ++ mkS h).size + (tl.length + 1) ≤ s.size := by rw [ByteArray.size_append, mkS_size]; omega
  have hlt : i < s.size := by omega
  rcases tl with _ | ⟨c, r⟩
  ·have d1 : decide (([] : List UInt8).head? = some 110) = false := rfl
   rw [d1]
   (try simp +decide -implicitDefEqProofs only [go_sem])
   refine stk_pure (hasPre_ok (mkS []) ⟨#[92]⟩) fun v hv2 => ?_
   subst hv2
   rw [hasPre_one]
   have d2 : decide (([] : List UInt8).head? = some 92) = false := rfl
   rw [d2]
   (try simp +decide -implicitDefEqProofs only [go_sem])
   refine aret_pure (.inr rfl) ?_; simp +decide only [retOf, tget, if_true, if_false, ↓reduceIte, List.map_cons, List.map_nil]
   unfold plainR
   rw [hP, hpl]
   rfl
  have hcz : (1 : Int) ≤ (mkS (c :: r)).size := by rw [mkS_size]; simp; omega
  have hco := cut_one c r
  have fin : ∀ (x : UInt8) (H2 : AHeap), plainL (92 :: c :: r) = (plainL r).map (x :: ·) → BuildH H2 b (t ++ mkS h ++ ⟨#[x]⟩) → BuildH H2 b (t ++ mkS h ++ ⟨#[x]⟩) ∧ plainL (bl s) = (plainL (bl (mkS r))).map (bl (t ++ mkS h ++ ⟨#[x]⟩) ++ ·) ∧ (mkS r).size + (i + 1) ≤ s.size ∧ (t ++ mkS h ++ ⟨#[x]⟩).size + (mkS r).size ≤ s.size := fun x H2 hx hB2 => by
   refine ⟨hB2, ?_, ?_, ?_⟩
   ·rw [hP, hpl, hx, bl_mkS, bl_app, bl_app, bl_mkS]
    have : bl (⟨#[x]⟩ : Str) = [x] := rfl
    rw [this]
    cases plainL r <;> simp
   ·rw [mkS_size]; simp at hlen; omega
   ·rw [ByteArray.size_append, mkS_size]
    have : (⟨#[x]⟩ : Str).size = 1 := rfl
    rw [List.length_cons] at htS
    omega
  by_cases hc1 : c = 110
  ·subst hc1
   have d1 : decide ((110 :: r : List UInt8).head? = some 110) = true := rfl
   rw [d1]
   (try simp +decide -implicitDefEqProofs only [go_sem])
   refine stk_call (wbyte_ok 10 hv (by omega)) fun v H2 hv2 => ?_
   (try simp +decide -implicitDefEqProofs only [go_sem, hcz, hco, hlt, Int.le_refl])
   exact ⟨(H2, mkS r, t ++ mkS h ++ ⟨#[10]⟩), Weak.list _ (Sub.refl _) (by (try simp +decide -implicitDefEqProofs only [go_sem])), fin 10 H2 (by rw [plainL, if_pos rfl]) hv2⟩
  have d1 : decide ((c :: r : List UInt8).head? = some 110) = false := by simp [hc1]
  rw [d1]
  (try simp +decide -implicitDefEqProofs only [go_sem])
  refine stk_pure (hasPre_ok (mkS (c :: r)) ⟨#[92]⟩) fun v hv2 => ?_
  subst hv2
  rw [hasPre_one]
  by_cases hc2 : c = 92
  ·subst hc2
   have d2 : decide ((92 :: r : List UInt8).head? = some 92) = true := rfl
   rw [d2]
   (try simp +decide -implicitDefEqProofs only [go_sem])
   refine stk_call (wbyte_ok 92 hv (by omega)) fun v H2 hv2 => ?_
   (try simp +decide -implicitDefEqProofs only [go_sem, hcz, hco, hlt, Int.le_refl])
   exact ⟨(H2, mkS r, t ++ mkS h ++ ⟨#[92]⟩), Weak.list _ (Sub.refl _) (by (try simp +decide -implicitDefEqProofs only [go_sem])), fin 92 H2 (by rw [plainL, if_neg (by decide), if_pos rfl]) hv2⟩
  have d2 : decide ((c :: r : List UInt8).head? = some 92) = false := by simp [hc2]
  rw [d2]
  (try simp +decide -implicitDefEqProofs only [go_sem])
  refine aret_pure (.inr rfl) ?_; simp +decide only [retOf, tget, if_true, if_false, ↓reduceIte, List.map_cons, List.map_nil]
  unfold plainR
  rw [hP, hpl, plainL, if_neg hc1, if_neg hc2]
  rfl
def c_lnID : AFn := ⟨1, 36, [2],
 .seq (.ops [oq 2 (.mv (.const (.bool false)))])
 (.seq (.seq (.ops [oq 5 (.mv (.tmp 0)),
   oq 6 (.len true (.tmp 5)),
   oq 7 (.mv (.const (.int .i64 0)))])
 (.block 0 (.loop (.seq (.ops [oq 8 (.bin .lss .num (.tmp 7) (.tmp 6))])
   (.seq (.cond (.tmp 8)
    (.skip)
    (.exit 0))
   (.seq (.block 1 (.seq (.ops [oq 9 (.mv (.tmp 7)),
      oq 3 (.mv (.tmp 9))])
    (.seq (.ops [oq 10 (.mv (.tmp 0)),
      oq 11 (.mv (.tmp 3)),
      oq 12 (.six (.tmp 10) (.tmp 11)),
      oq 4 (.mv (.tmp 12))])
    (.seq (.ops [oq 13 (.mv (.tmp 4)),
      oq 14 (.bin .geq .num (.tmp 13) (.const (.int .u8 97))),
      oq 15 (.mv (.tmp 14)),
      og 16 15 true (.mv (.tmp 4)),
      og 17 15 true (.bin .leq .num (.tmp 16) (.const (.int .u8 122))),
      oq 18 (.pick (.tmp 15) (.tmp 17) (.const (.bool false))),
      oq 19 (.mv (.tmp 18)),
      og 20 19 false (.mv (.tmp 4)),
      og 21 19 false (.bin .geq .num (.tmp 20) (.const (.int .u8 48))),
      og 22 19 false (.mv (.tmp 21)),
      og 23 22 true (.mv (.tmp 4)),
      og 24 22 true (.bin .leq .num (.tmp 23) (.const (.int .u8 57))),
      og 25 19 false (.pick (.tmp 22) (.tmp 24) (.const (.bool false))),
      oq 26 (.pick (.tmp 19) (.const (.bool true)) (.tmp 25)),
      oq 27 (.un .not (.tmp 26))])
    (.cond (.tmp 27)
     (.seq (.ops [oq 2 (.mv (.const (.bool false)))])
     (.ret))
     (.skip))))))
   (.ops [oq 28 (.bin .add .num (.tmp 7) (.const (.int .i64 1))),
     oq 7 (.mv (.tmp 28))])))))))
 (.seq (.ops [oq 29 (.mv (.tmp 0)),
   oq 30 (.bin .neq .num (.tmp 29) (.const (.string ByteArray.empty))),
   oq 31 (.mv (.tmp 30)),
   og 32 31 true (.mv (.tmp 0)),
   og 33 31 true (.len true (.tmp 32)),
   og 34 31 true (.bin .leq .num (.tmp 33) (.const (.int .i64 16))),
   oq 35 (.pick (.tmp 31) (.tmp 34) (.const (.bool false))),
   oq 2 (.mv (.tmp 35))])
 (.ret))), []⟩
theorem k_lnID : compF Tryz.prog 58 = some c_lnID := by kernel_rfl
set_option maxHeartbeats 4000000 in
theorem lnID_ok {W : World} (s : Str) (hs : s.size ≤ maxLen) : ACalls Tryz.prog W 58 [.v (.string s)] AHeap.none fun v _ => v = .v (.bool (idOk s)) := by
 unfold maxLen at hs
 refine fn_run follows k_lnID rfl ?_
 simp only [oq, og, oe, oh, on, c_lnID, aretC_nil, List.zipIdx_cons, List.zipIdx_nil, List.map_cons, List.map_nil, Nat.zero_add]
 (try simp +decide -implicitDefEqProofs only [go_sem])
 refine stk_up (α := Unit) s.size (fun i _ => ⟨[(7, .v (.int .i64 i)), (6, .v (.int .i64 s.size)), (0, .v (.string s))], AHeap.none⟩) (fun i _ => ∀ j, j < i → idB (bt s j) = true) () (Weak.list _ (Sub.refl _) (by (try simp +decide -implicitDefEqProofs only [go_sem]))) (by intro j h; omega) ?_
 rintro i ⟨⟩ hi hJ
 by_cases hlt : i < s.size
 ·have g1 : (i : Int) < (s.size : Int) := by omega
  have hw : IntKind.i64.wrap ((i : Int) + 1) = (i : Int) + 1 := by rw [IntKind.wrap_i64]; omega
  have hnn : (0 : Int) ≤ (i : Int) := by omega
  have hnext : idB (bt s i) = true → ∀ j, j < i + 1 → idB (bt s j) = true := fun h j hj => by
   by_cases e : j = i
   ·rw [e]; exact h
   ·exact hJ j (by omega)
  have hno := idOk_no hlt
  have hdef : idB (bt s i) = ((decide (97 ≤ bt s i) && decide (bt s i ≤ 122)) || (decide (48 ≤ bt s i) && decide (bt s i ≤ 57))) := rfl
  generalize idB (bt s i) = ok at hnext hno hdef
  generalize hc : bt s i = c at hdef
  by_cases a1 : 97 ≤ c
  ·have a4 : (48 : Int) ≤ c := by omega
   have a5 : ¬ c ≤ 57 := by omega
   by_cases a2 : c ≤ 122
   ·(try simp +decide -implicitDefEqProofs only [go_sem, g1, hlt, hnn, hw, hc, a1, a2])
    refine ⟨(), Weak.list _ (Sub.refl _) (by (try simp +decide -implicitDefEqProofs only [go_sem])), ?_⟩
    exact hnext (by rw [hdef]; simp [a1, a2])
   ·(try simp +decide -implicitDefEqProofs only [go_sem, g1, hlt, hnn, hw, hc, a1, a2, a4, a5])
    refine aret_pure (.inr rfl) ?_; simp +decide only [retOf, tget, if_true, if_false, ↓reduceIte, List.map_cons, List.map_nil]
    exact hno (by rw [hdef]; simp [a2, a5])
  ·by_cases a4 : 48 ≤ c
   ·by_cases a5 : c ≤ 57
    ·(try simp +decide -implicitDefEqProofs only [go_sem, g1, hlt, hnn, hw, hc, a1, a4, a5])
     refine ⟨(), Weak.list _ (Sub.refl _) (by (try simp +decide -implicitDefEqProofs only [go_sem])), ?_⟩
     exact hnext (by rw [hdef]; simp [a4, a5])
    ·(try simp +decide -implicitDefEqProofs only [go_sem, g1, hlt, hnn, hw, hc, a1, a4, a5])
     refine aret_pure (.inr rfl) ?_; simp +decide only [retOf, tget, if_true, if_false, ↓reduceIte, List.map_cons, List.map_nil]
     exact hno (by rw [hdef]; simp [a1, a5])
   ·(try simp +decide -implicitDefEqProofs only [go_sem, g1, hlt, hnn, hw, hc, a1, a4])
    refine aret_pure (.inr rfl) ?_; simp +decide only [retOf, tget, if_true, if_false, ↓reduceIte, List.map_cons, List.map_nil]
    exact hno (by rw [hdef]; simp [a1, a4])
 ·have g1 : ¬ (i : Int) < (s.size : Int) := by omega
  have hall : idOk s = _ := idOk_yes (fun j hj => hJ j (by omega))
  rw [hall]
  by_cases e0 : s = ByteArray.empty
  ·have d0 : decide (¬ s = ByteArray.empty) = false := decide_eq_false (fun h => h e0)
   (try simp +decide -implicitDefEqProofs only [go_sem, g1, d0, ne_eq])
   refine aret_pure (.inr rfl) ?_; simp +decide only [retOf, tget, if_true, if_false, ↓reduceIte, List.map_cons, List.map_nil]
   simp [e0]
  ·have d0 : decide (¬ s = ByteArray.empty) = true := decide_eq_true e0
   by_cases e1 : s.size ≤ 16
   ·have g2 : (s.size : Int) ≤ 16 := by omega
    (try simp +decide -implicitDefEqProofs only [go_sem, g1, d0, g2, ne_eq])
    refine aret_pure (.inr rfl) ?_; simp +decide only [retOf, tget, if_true, if_false, ↓reduceIte, List.map_cons, List.map_nil]
    simp [e0, e1]
   ·have g2 : ¬ (s.size : Int) ≤ 16 := by omega
    (try simp +decide -implicitDefEqProofs only [go_sem, g1, d0, g2, ne_eq])
    refine aret_pure (.inr rfl) ?_; simp +decide only [retOf, tget, if_true, if_false, ↓reduceIte, List.map_cons, List.map_nil]
    simp [e1]
def wordS (d : Int) : Str := if d = 1 then ⟨#[105, 110, 103, 101, 115, 116]⟩ else if d = 2 then ⟨#[115, 101, 114, 118, 101]⟩ else if d = 3 then ⟨#[112, 117, 98, 108, 105, 115, 104]⟩ else if d = 4 then ⟨#[116, 105, 99, 107]⟩ else if d = 5 then ⟨#[100, 101, 108, 105, 118, 101, 114]⟩ else if d = 6 then ⟨#[100, 114, 111, 112]⟩ else if d = 7 then ⟨#[116, 119, 105, 99, 101]⟩ else if d = 8 then ⟨#[99, 114, 97, 115, 104]⟩ else if d = 9 then ⟨#[114, 105, 115, 101]⟩ else if d = 10 then ⟨#[97, 114, 109]⟩ else ByteArray.empty
def c_lnWord : AFn := ⟨1, 24, [2],
 .seq (.ops [oq 2 (.mv (.const (.string ByteArray.empty)))])
 (.seq (.seq (.ops [oq 3 (.mv (.tmp 0))])
 (.block 0 (.seq (.ops [oq 5 (.bin .eql .num (.tmp 3) (.const (.int .i64 1))),
    oq 4 (.mv (.tmp 5))])
  (.cond (.tmp 4)
   (.seq (.ops [oq 2 (.mv (.const (.string ⟨#[105, 110, 103, 101, 115, 116]⟩)))])
   (.ret))
   (.seq (.ops [oq 7 (.bin .eql .num (.tmp 3) (.const (.int .i64 2))),
     oq 6 (.mv (.tmp 7))])
   (.cond (.tmp 6)
    (.seq (.ops [oq 2 (.mv (.const (.string ⟨#[115, 101, 114, 118, 101]⟩)))])
    (.ret))
    (.seq (.ops [oq 9 (.bin .eql .num (.tmp 3) (.const (.int .i64 3))),
      oq 8 (.mv (.tmp 9))])
    (.cond (.tmp 8)
     (.seq (.ops [oq 2 (.mv (.const (.string ⟨#[112, 117, 98, 108, 105, 115, 104]⟩)))])
     (.ret))
     (.seq (.ops [oq 11 (.bin .eql .num (.tmp 3) (.const (.int .i64 4))),
       oq 10 (.mv (.tmp 11))])
     (.cond (.tmp 10)
      (.seq (.ops [oq 2 (.mv (.const (.string ⟨#[116, 105, 99, 107]⟩)))])
      (.ret))
      (.seq (.ops [oq 13 (.bin .eql .num (.tmp 3) (.const (.int .i64 5))),
        oq 12 (.mv (.tmp 13))])
      (.cond (.tmp 12)
       (.seq (.ops [oq 2 (.mv (.const (.string ⟨#[100, 101, 108, 105, 118, 101, 114]⟩)))])
       (.ret))
       (.seq (.ops [oq 15 (.bin .eql .num (.tmp 3) (.const (.int .i64 6))),
         oq 14 (.mv (.tmp 15))])
       (.cond (.tmp 14)
        (.seq (.ops [oq 2 (.mv (.const (.string ⟨#[100, 114, 111, 112]⟩)))])
        (.ret))
        (.seq (.ops [oq 17 (.bin .eql .num (.tmp 3) (.const (.int .i64 7))),
          oq 16 (.mv (.tmp 17))])
        (.cond (.tmp 16)
         (.seq (.ops [oq 2 (.mv (.const (.string ⟨#[116, 119, 105, 99, 101]⟩)))])
         (.ret))
         (.seq (.ops [oq 19 (.bin .eql .num (.tmp 3) (.const (.int .i64 8))),
           oq 18 (.mv (.tmp 19))])
         (.cond (.tmp 18)
          (.seq (.ops [oq 2 (.mv (.const (.string ⟨#[99, 114, 97, 115, 104]⟩)))])
          (.ret))
          (.seq (.ops [oq 21 (.bin .eql .num (.tmp 3) (.const (.int .i64 9))),
            oq 20 (.mv (.tmp 21))])
          (.cond (.tmp 20)
           (.seq (.ops [oq 2 (.mv (.const (.string ⟨#[114, 105, 115, 101]⟩)))])
           (.ret))
           (.seq (.ops [oq 23 (.bin .eql .num (.tmp 3) (.const (.int .i64 10))),
             oq 22 (.mv (.tmp 23))])
           (.cond (.tmp 22)
            (.seq (.ops [oq 2 (.mv (.const (.string ⟨#[97, 114, 109]⟩)))])
            (.ret))
            (.skip)))))))))))))))))))))))
 (.seq (.ops [oq 2 (.mv (.const (.string ByteArray.empty)))])
 (.ret))), []⟩
theorem k_lnWord : compF Tryz.prog 28 = some c_lnWord := by kernel_rfl
set_option maxHeartbeats 2000000 in
theorem word_okL {W : World} (d : Int) : ACalls Tryz.prog W 28 [.v (.int .i64 d)] AHeap.none fun v _ => v = .v (.string (wordS d)) := by
 refine fn_run follows k_lnWord rfl ?_
 simp only [oq, og, oe, oh, on, c_lnWord, aretC_nil, List.zipIdx_cons, List.zipIdx_nil, List.map_cons, List.map_nil, Nat.zero_add]
 by_cases h1 : d = 1
 ·subst h1
  (try simp +decide -implicitDefEqProofs only [go_sem])
  refine aret_pure (.inr rfl) ?_; simp +decide only [retOf, tget, if_true, if_false, ↓reduceIte, List.map_cons, List.map_nil]
  rfl
 by_cases h2 : d = 2
 ·subst h2
  (try simp +decide -implicitDefEqProofs only [go_sem])
  refine aret_pure (.inr rfl) ?_; simp +decide only [retOf, tget, if_true, if_false, ↓reduceIte, List.map_cons, List.map_nil]
  rfl
 by_cases h3 : d = 3
 ·subst h3
  (try simp +decide -implicitDefEqProofs only [go_sem])
  refine aret_pure (.inr rfl) ?_; simp +decide only [retOf, tget, if_true, if_false, ↓reduceIte, List.map_cons, List.map_nil]
  rfl
 by_cases h4 : d = 4
 ·subst h4
  (try simp +decide -implicitDefEqProofs only [go_sem])
  refine aret_pure (.inr rfl) ?_; simp +decide only [retOf, tget, if_true, if_false, ↓reduceIte, List.map_cons, List.map_nil]
  rfl
 by_cases h5 : d = 5
 ·subst h5
  (try simp +decide -implicitDefEqProofs only [go_sem])
  refine aret_pure (.inr rfl) ?_; simp +decide only [retOf, tget, if_true, if_false, ↓reduceIte, List.map_cons, List.map_nil]
  rfl
 by_cases h6 : d = 6
 ·subst h6
  (try simp +decide -implicitDefEqProofs only [go_sem])
  refine aret_pure (.inr rfl) ?_; simp +decide only [retOf, tget, if_true, if_false, ↓reduceIte, List.map_cons, List.map_nil]
  rfl
 by_cases h7 : d = 7
 ·subst h7
  (try simp +decide -implicitDefEqProofs only [go_sem])
  refine aret_pure (.inr rfl) ?_; simp +decide only [retOf, tget, if_true, if_false, ↓reduceIte, List.map_cons, List.map_nil]
  rfl
 by_cases h8 : d = 8
 ·subst h8
  (try simp +decide -implicitDefEqProofs only [go_sem])
  refine aret_pure (.inr rfl) ?_; simp +decide only [retOf, tget, if_true, if_false, ↓reduceIte, List.map_cons, List.map_nil]
  rfl
 by_cases h9 : d = 9
 ·subst h9
  (try simp +decide -implicitDefEqProofs only [go_sem])
  refine aret_pure (.inr rfl) ?_; simp +decide only [retOf, tget, if_true, if_false, ↓reduceIte, List.map_cons, List.map_nil]
  rfl
 by_cases h10 : d = 10
 ·subst h10
  (try simp +decide -implicitDefEqProofs only [go_sem])
  refine aret_pure (.inr rfl) ?_; simp +decide only [retOf, tget, if_true, if_false, ↓reduceIte, List.map_cons, List.map_nil]
  rfl
 (try simp +decide -implicitDefEqProofs only [go_sem, h1, h2, h3, h4, h5, h6, h7, h8, h9, h10])
 refine aret_pure (.inr rfl) ?_; simp +decide only [retOf, tget, if_true, if_false, ↓reduceIte, List.map_cons, List.map_nil]
 unfold wordS
 rw [if_neg h1, if_neg h2, if_neg h3, if_neg h4, if_neg h5, if_neg h6, if_neg h7, if_neg h8, if_neg h9, if_neg h10]
def c_lnEmpty : AFn := ⟨1, 43, [2],
 .seq (.ops [oe 1 (.box 36 (.tmp 0)),
   oq 2 (.mv (.const (.bool false)))])
 (.seq (.ops [oq 3 (.fad 0 1 (.tmp 1)),
   oq 4 (.ld false 1 (.tmp 3)),
   oq 5 (.bin .eql .num (.tmp 4) (.const (.int .i64 0))),
   oq 6 (.mv (.tmp 5)),
   og 7 6 true (.fad 1 1 (.tmp 1)),
   og 8 6 true (.ld false 1 (.tmp 7)),
   og 9 6 true (.len false (.tmp 8)),
   og 10 6 true (.fad 2 1 (.tmp 1)),
   og 11 6 true (.ld false 1 (.tmp 10)),
   og 12 6 true (.len false (.tmp 11)),
   og 13 6 true (.bin .add .num (.tmp 9) (.tmp 12)),
   og 14 6 true (.fad 3 1 (.tmp 1)),
   og 15 6 true (.ld false 1 (.tmp 14)),
   og 16 6 true (.len false (.tmp 15)),
   og 17 6 true (.bin .add .num (.tmp 13) (.tmp 16)),
   og 18 6 true (.fad 4 1 (.tmp 1)),
   og 19 6 true (.ld false 1 (.tmp 18)),
   og 20 6 true (.len false (.tmp 19)),
   og 21 6 true (.bin .add .num (.tmp 17) (.tmp 20)),
   og 22 6 true (.fad 5 1 (.tmp 1)),
   og 23 6 true (.ld false 1 (.tmp 22)),
   og 24 6 true (.len false (.tmp 23)),
   og 25 6 true (.bin .add .num (.tmp 21) (.tmp 24)),
   og 26 6 true (.bin .eql .num (.tmp 25) (.const (.int .i64 0))),
   oq 27 (.pick (.tmp 6) (.tmp 26) (.const (.bool false))),
   oq 28 (.mv (.tmp 27)),
   og 29 28 true (.fad 6 1 (.tmp 1)),
   og 30 28 true (.ld false 1 (.tmp 29)),
   og 31 28 true (.bin .eql .num (.tmp 30) (.const (.int .i64 0))),
   oq 32 (.pick (.tmp 28) (.tmp 31) (.const (.bool false))),
   oq 33 (.mv (.tmp 32)),
   og 34 33 true (.fad 7 1 (.tmp 1)),
   og 35 33 true (.ld false 1 (.tmp 34)),
   og 36 33 true (.bin .eql .num (.tmp 35) (.const (.int .i64 0))),
   oq 37 (.pick (.tmp 33) (.tmp 36) (.const (.bool false))),
   oq 38 (.mv (.tmp 37)),
   og 39 38 true (.fad 8 1 (.tmp 1)),
   og 40 38 true (.ld false 1 (.tmp 39)),
   og 41 38 true (.bin .eql .num (.tmp 40) (.const (.int .i64 0))),
   oq 42 (.pick (.tmp 38) (.tmp 41) (.const (.bool false))),
   oq 2 (.mv (.tmp 42))])
 (.ret)), []⟩
theorem k_lnEmpty : compF Tryz.prog 29 = some c_lnEmpty := by kernel_rfl
set_option maxHeartbeats 4000000 in
theorem lnEmpty_ok {W : World} (p : Pol) (F : Fits p) : ACalls Tryz.prog W 29 [.agg (polCells p)] AHeap.none fun v _ => v = .v (.bool (decide (p = pol0))) := by
 have F1 := F.elems; have F2 := F.attrs; have F3 := F.schemes; have F4 := F.classes; have F5 := F.props
 refine fn_run follows k_lnEmpty rfl ?_
 simp only [oq, og, oe, oh, on, c_lnEmpty, aretC_nil, List.zipIdx_cons, List.zipIdx_nil, List.map_cons, List.map_nil, Nat.zero_add]
 (try simp +decide -implicitDefEqProofs only [go_sem])
 rw [stk_box]
 refine ⟨by rfl, fun b1 h1 => ?_⟩
 have no : ∀ (h : p ≠ pol0), AVal.v (.bool false) = .v (.bool (decide (p = pol0))) := fun h => by rw [decide_eq_false h]
 by_cases e0 : p.epoch = 0
 case neg =>
  have d0 := decide_eq_false e0
  (try simp +decide -implicitDefEqProofs only [go_sem, polCells, d0, lay, oneOr, List.take_succ_cons, List.take_zero, List.drop_succ_cons, List.drop_zero, List.nil_append, List.cons_append, Option.getD_some, Nat.reduceAdd, Nat.reduceLeDiff, List.append_nil, and_self, List.all_cons, List.all_nil])
  refine aret_pure (.inr rfl) ?_; simp +decide only [retOf, tget, if_true, if_false, ↓reduceIte, List.map_cons, List.map_nil]
  exact no fun h => e0 (by rw [h]; rfl)
 have d0 := decide_eq_true e0
 have w1 := wrap_in (n := (p.elems.length : Int) + (p.attrs.length : Int)) (by omega) (by omega)
 have w2 := wrap_in (n := (p.elems.length : Int) + (p.attrs.length : Int) + (p.schemes.length : Int)) (by omega) (by omega)
 have w3 := wrap_in (n := (p.elems.length : Int) + (p.attrs.length : Int) + (p.schemes.length : Int) + (p.classes.length : Int)) (by omega) (by omega)
 have w4 := wrap_in (n := (p.elems.length : Int) + (p.attrs.length : Int) + (p.schemes.length : Int) + (p.classes.length : Int) + (p.props.length : Int)) (by omega) (by omega)
 by_cases e1 : (p.elems.length : Int) + (p.attrs.length : Int) + (p.schemes.length : Int) + (p.classes.length : Int) + (p.props.length : Int) = 0
 case neg =>
  have d1 := decide_eq_false e1
  (try simp +decide -implicitDefEqProofs only [go_sem, polCells, d0, w1, w2, w3, w4, d1, lay, oneOr, List.take_succ_cons, List.take_zero, List.drop_succ_cons, List.drop_zero, List.nil_append, List.cons_append, Option.getD_some, Nat.reduceAdd, Nat.reduceLeDiff, List.append_nil, and_self, List.all_cons, List.all_nil])
  refine aret_pure (.inr rfl) ?_; simp +decide only [retOf, tget, if_true, if_false, ↓reduceIte, List.map_cons, List.map_nil]
  exact no fun h => e1 (by rw [h]; rfl)
 have d1 := decide_eq_true e1
 by_cases e2 : p.depth = 0
 case neg =>
  have d2 := decide_eq_false e2
  (try simp +decide -implicitDefEqProofs only [go_sem, polCells, d0, w1, w2, w3, w4, d1, d2, lay, oneOr, List.take_succ_cons, List.take_zero, List.drop_succ_cons, List.drop_zero, List.nil_append, List.cons_append, Option.getD_some, Nat.reduceAdd, Nat.reduceLeDiff, List.append_nil, and_self, List.all_cons, List.all_nil])
  refine aret_pure (.inr rfl) ?_; simp +decide only [retOf, tget, if_true, if_false, ↓reduceIte, List.map_cons, List.map_nil]
  exact no fun h => e2 (by rw [h]; rfl)
 have d2 := decide_eq_true e2
 by_cases e3 : p.nodes = 0
 case neg =>
  have d3 := decide_eq_false e3
  (try simp +decide -implicitDefEqProofs only [go_sem, polCells, d0, w1, w2, w3, w4, d1, d2, d3, lay, oneOr, List.take_succ_cons, List.take_zero, List.drop_succ_cons, List.drop_zero, List.nil_append, List.cons_append, Option.getD_some, Nat.reduceAdd, Nat.reduceLeDiff, List.append_nil, and_self, List.all_cons, List.all_nil])
  refine aret_pure (.inr rfl) ?_; simp +decide only [retOf, tget, if_true, if_false, ↓reduceIte, List.map_cons, List.map_nil]
  exact no fun h => e3 (by rw [h]; rfl)
 have d3 := decide_eq_true e3
 by_cases e4 : p.bytes = 0
 case neg =>
  have d4 := decide_eq_false e4
  (try simp +decide -implicitDefEqProofs only [go_sem, polCells, d0, w1, w2, w3, w4, d1, d2, d3, d4, lay, oneOr, List.take_succ_cons, List.take_zero, List.drop_succ_cons, List.drop_zero, List.nil_append, List.cons_append, Option.getD_some, Nat.reduceAdd, Nat.reduceLeDiff, List.append_nil, and_self, List.all_cons, List.all_nil])
  refine aret_pure (.inr rfl) ?_; simp +decide only [retOf, tget, if_true, if_false, ↓reduceIte, List.map_cons, List.map_nil]
  exact no fun h => e4 (by rw [h]; rfl)
 have d4 := decide_eq_true e4
 (try simp +decide -implicitDefEqProofs only [go_sem, polCells, d0, w1, w2, w3, w4, d1, d2, d3, d4, lay, oneOr, List.take_succ_cons, List.take_zero, List.drop_succ_cons, List.drop_zero, List.nil_append, List.cons_append, Option.getD_some, Nat.reduceAdd, Nat.reduceLeDiff, List.append_nil, and_self, List.all_cons, List.all_nil])
 refine aret_pure (.inr rfl) ?_; simp +decide only [retOf, tget, if_true, if_false, ↓reduceIte, List.map_cons, List.map_nil]
 have l1 : p.elems = [] := List.length_eq_zero_iff.1 (by omega)
 have l2 : p.attrs = [] := List.length_eq_zero_iff.1 (by omega)
 have l3 : p.schemes = [] := List.length_eq_zero_iff.1 (by omega)
 have l4 : p.classes = [] := List.length_eq_zero_iff.1 (by omega)
 have l5 : p.props = [] := List.length_eq_zero_iff.1 (by omega)
 have : p = pol0 := Pol.ext2 ⟨e0, l1, l2, l3, l4, l5, e2, e3, e4⟩
 rw [decide_eq_true this]
end Go.Proofs.YtfaodacmdlnabaaGreatDoor.M
