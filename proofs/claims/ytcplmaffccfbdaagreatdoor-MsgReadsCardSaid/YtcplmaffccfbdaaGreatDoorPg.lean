/-
  Which policies the laws go through; the policy that the laws' own check is of: walked.
-/
import Derived.Test.YtcplmaffccfbdaaGreatDoorPf
namespace Go.Proofs.YtcplmaffccfbdaaGreatDoor.M
open Go.RowKit
attribute [local go_sem] stk_nil stk_skip stk_ops stk_seq stk_block stk_scope stk_exit stk_ret stk_code_exit stk_code_ret stk_ops_exit stk_ops_ret stk_endb stk_endb_exit stk_endb_ret stk_endl stk_endl_exit stk_endl_ret stk_ops_nil stk_q stk_niq niqA flip srcOf stk_bsl side val bside bval uside uval cside cval bndS bndV intA isInt lside lval fside fval faside faval iside ival sxside sxval sizeA slside slval llside llval lenside lenval lenA tupA mmside mmval nkside boolA isBool ev_t ev_c tget put_s put_n lkside lkval menval stk_mk Option.isSome_some isMapA mapA keyA FZ_rfl FZ_any retOf true_and and_true if_true if_false decide_true decide_false Bool.not_true Bool.not_false Nat.zero_add List.map_cons List.map_nil Int.toNat_natCast strRows_len intRows_len List.getD_cons_zero List.getD_cons_succ List.length_cons List.length_nil List.forall_mem_cons List.not_mem_nil false_implies implies_true Int.ofNat_zero Int.natCast_add Int.natCast_one Int.ofNat_one Int.natCast_zero isB isU Bool.false_eq_true beq_self_eq_true Bool.false_beq Bool.true_beq Int.natCast_nonneg undef strRows_take strRows_drop Int.toNat_zero List.drop_zero Bool.and_true oneOr List.all_cons List.all_nil AVal.one Value.oneCell' Bool.true_and List.take_length stk_st' stside stH hp_self hp_hp isnside isnval
set_option linter.unusedVariables false
set_option linter.unusedSimpArgs false
theorem fits_of {p : Pol} (h : ∀ i, i < 5 → ((polLists p).getD i []).length ≤ 100 ∧ ∀ s ∈ (polLists p).getD i [], s.size ≤ 6000) : Fits p := by
  have h0 := h 0 (by omega)
  have h1 := h 1 (by omega)
  have h2 := h 2 (by omega)
  have h3 := h 3 (by omega)
  have h4 := h 4 (by omega)
  refine ⟨Nat.le_trans h0.1 (by omega), Nat.le_trans h1.1 (by omega), Nat.le_trans h2.1 (by omega), Nat.le_trans h3.1 (by omega), Nat.le_trans h4.1 (by omega), fun l hl s hs => ?_⟩
  simp only [List.mem_cons, List.not_mem_nil, or_false] at hl
  rcases hl with rfl | rfl | rfl | rfl | rfl
  · exact Nat.le_trans (h0.2 s hs) (by omega)
  · exact Nat.le_trans (h1.2 s hs) (by omega)
  · exact Nat.le_trans (h2.2 s hs) (by omega)
  · exact Nat.le_trans (h3.2 s hs) (by omega)
  · exact Nat.le_trans (h4.2 s hs) (by omega)
/-- How long a policy's lists are, at most. -/
def Lens (p : Pol) : Prop := ∀ i, ((polLists p).getD i []).length ≤ 9223372036854775807
def c_Light : AFn := ⟨1, 43, [2],
  .seq (.ops [⟨(some 1), none, .e (.box 25 (.tmp 0))⟩,
      ⟨(some 2), none, .q (.mv (.const (.bool false)))⟩])
  (.seq (.ops [⟨(some 3), none, .q (.mv (.const (.int .i64 0)))⟩])
  (.seq (.seq (.ops [⟨(some 7), none, .q (.fad 1 1 (.tmp 1))⟩,
      ⟨(some 8), none, .q (.ld false 1 (.tmp 7))⟩,
      ⟨(some 9), none, .q (.fad 2 1 (.tmp 1))⟩,
      ⟨(some 10), none, .q (.ld false 1 (.tmp 9))⟩,
      ⟨(some 11), none, .q (.fad 3 1 (.tmp 1))⟩,
      ⟨(some 12), none, .q (.ld false 1 (.tmp 11))⟩,
      ⟨(some 13), none, .q (.fad 4 1 (.tmp 1))⟩,
      ⟨(some 14), none, .q (.ld false 1 (.tmp 13))⟩,
      ⟨(some 15), none, .q (.fad 5 1 (.tmp 1))⟩,
      ⟨(some 16), none, .q (.ld false 1 (.tmp 15))⟩,
      ⟨(some 17), none, .e (.bsl 22 1 [(.tmp 8), (.tmp 10), (.tmp 12), (.tmp 14), (.tmp 16)])⟩,
      ⟨(some 18), none, .q (.len false (.tmp 17))⟩,
      ⟨(some 19), none, .q (.mv (.const (.int .i64 0)))⟩])
  (.block 0 (.loop (.seq (.ops [⟨(some 20), none, .q (.bin .lss .num (.tmp 19) (.tmp 18))⟩])
      (.seq (.cond (.tmp 20)
        (.skip)
        (.exit 0))
      (.seq (.block 1 (.seq (.ops [⟨(some 21), none, .q (.ixa 1 (.tmp 17) (.tmp 19))⟩,
            ⟨(some 22), none, .q (.ld false 1 (.tmp 21))⟩,
            ⟨(some 5), none, .q (.mv (.tmp 22))⟩])
        (.seq (.seq (.ops [⟨(some 23), none, .q (.mv (.tmp 5))⟩,
            ⟨(some 24), none, .q (.len false (.tmp 23))⟩,
            ⟨(some 25), none, .q (.bin .gtr .num (.tmp 24) (.const (.int .i64 100)))⟩])
        (.cond (.tmp 25)
          (.seq (.ops [⟨(some 2), none, .q (.mv (.const (.bool false)))⟩])
          (.ret))
          (.skip)))
        (.seq (.ops [⟨(some 6), none, .q (.mv (.const (.int .i64 0)))⟩])
        (.block 2 (.loop (.seq (.seq (.ops [⟨(some 26), none, .q (.mv (.tmp 6))⟩,
                ⟨(some 27), none, .q (.mv (.tmp 5))⟩,
                ⟨(some 28), none, .q (.len false (.tmp 27))⟩,
                ⟨(some 29), none, .q (.bin .lss .num (.tmp 26) (.tmp 28))⟩])
            (.cond (.tmp 29)
              (.skip)
              (.exit 2)))
            (.seq (.block 3 (.ops [⟨(some 32), none, .q (.mv (.tmp 3))⟩,
                  ⟨(some 33), none, .q (.mv (.tmp 5))⟩,
                  ⟨(some 34), none, .q (.mv (.tmp 6))⟩,
                  ⟨(some 35), none, .q (.ixa 1 (.tmp 33) (.tmp 34))⟩,
                  ⟨(some 36), none, .q (.ld false 1 (.tmp 35))⟩,
                  ⟨(some 37), none, .q (.len true (.tmp 36))⟩,
                  ⟨(some 38), none, .q (.mm false (.tmp 37) (.const (.int .i64 10000)))⟩,
                  ⟨(some 39), none, .q (.bin .add .num (.tmp 32) (.tmp 38))⟩,
                  ⟨(some 3), none, .q (.mv (.tmp 39))⟩]))
            (.ops [⟨(some 30), none, .q (.mv (.tmp 6))⟩,
                ⟨(some 31), none, .q (.bin .add .num (.tmp 30) (.const (.int .i64 1)))⟩,
                ⟨(some 6), none, .q (.mv (.tmp 31))⟩])))))))))
      (.ops [⟨(some 40), none, .q (.bin .add .num (.tmp 19) (.const (.int .i64 1)))⟩,
          ⟨(some 19), none, .q (.mv (.tmp 40))⟩])))))))
  (.seq (.ops [⟨(some 41), none, .q (.mv (.tmp 3))⟩,
      ⟨(some 42), none, .q (.bin .lss .num (.tmp 41) (.const (.int .i64 6000)))⟩,
      ⟨(some 2), none, .q (.mv (.tmp 42))⟩])
  (.ret)))), []⟩
theorem k_Light : compF Tryz.prog 14 = some c_Light := by kernel_rfl
set_option maxRecDepth 100000 in
set_option maxHeartbeats 4000000 in
theorem light_ok {W : World} (p : Pol) (hlen : Lens p) : ACalls Tryz.prog W 14 [.agg (polCells p)] AHeap.none fun v _ => ∃ b, v = .v (.bool b) ∧ (b = true → Fits p) := by
  have hp0 : polCells p = [.v (.int .i64 p.epoch), .sl false 1 (strRows p.elems), .sl false 1 (strRows p.attrs), .sl false 1 (strRows p.schemes), .sl false 1 (strRows p.classes), .sl false 1 (strRows p.props), .v (.int .i64 p.depth), .v (.int .i64 p.nodes), .v (.int .i64 p.bytes)] := rfl
  refine fn_run follows k_Light rfl ?_
  simp only [c_Light, aretC_nil, List.zipIdx_cons, List.zipIdx_nil, List.map_cons, List.map_nil, Nat.zero_add]
  (try simp +decide (implicitDefEqProofs := false) only [go_sem, ↓stk_g, ↓stk_c, ↓reduceIte])
  rw [stk_box]
  refine ⟨by rfl, fun b1 h1 => ?_⟩
  (try simp +decide (implicitDefEqProofs := false) only [go_sem, ↓stk_g, ↓stk_c, ↓reduceIte, polCells, lay, oneOr, List.take_succ_cons, List.take_zero, List.drop_succ_cons, List.drop_zero, List.nil_append, List.cons_append, Option.getD_some, Nat.reduceAdd, Nat.reduceLeDiff, List.append_nil, and_self, List.all_cons, List.all_nil])
  refine stk_up (α := Nat) 5 (fun i n => ⟨[(19, .v (.int .i64 i)), (18, .v (.int .i64 ((5 : Nat) : Int))), (17, .sl true 1 ((polLists p).map fun l => [AVal.sl false 1 (strRows l)])), (3, .v (.int .i64 n))], AHeap.none⟩) (fun i n => (∀ j, j < i → ((polLists p).getD j []).length ≤ 100 ∧ ∀ s ∈ (polLists p).getD j [], min s.size 10000 ≤ n) ∧ n ≤ i * 1000000) 0 (Weak.list _ (Sub.none _) ?_) ⟨fun j h => by omega, by omega⟩ ?_
  · (try simp +decide (implicitDefEqProofs := false) only [go_sem, ↓stk_g, ↓stk_c, ↓reduceIte])
    first | done | exact FZ.refl _ | exact ⟨FZ.refl _, FZ.refl _⟩ | exact ⟨FZ.refl _, FZ.refl _, FZ.refl _⟩
  rintro i n hi ⟨hJ1, hJ2⟩
  by_cases hlt : i < 5
  · have g1 : (i : Int) < ((5 : Nat) : Int) := by omega
    have hwi := wrap_in (n := (i : Int) + 1) (by omega) (by omega)
    have hg := polRows_get p hlt
    have hgl : ((polLists p).map fun l => [AVal.sl false 1 (strRows l)]).length = 5 := rfl
    have hll := hlen i
    generalize hl : (polLists p).getD i [] = l at hg hll
    by_cases hlong : (100 : Int) < (l.length : Int)
    · (try simp +decide (implicitDefEqProofs := false) only [go_sem, ↓stk_g, ↓stk_c, ↓reduceIte, g1, hlt, hg, hgl, hlong])
      refine aret_pure (.inr rfl) ?_; simp +decide only [retOf, tget, if_true, if_false, ↓reduceIte, List.map_cons, List.map_nil]
      exact ⟨false, rfl, fun h => by cases h⟩
    (try simp +decide (implicitDefEqProofs := false) only [go_sem, ↓stk_g, ↓stk_c, ↓reduceIte, g1, hlt, hg, hgl, hlong])
    refine stk_up (α := Nat) l.length (fun k m => ⟨[(6, .v (.int .i64 k)), (5, .sl false 1 (strRows l)), (3, .v (.int .i64 m)), (19, .v (.int .i64 i)), (18, .v (.int .i64 ((5 : Nat) : Int))), (17, .sl true 1 ((polLists p).map fun l => [AVal.sl false 1 (strRows l)]))], AHeap.none⟩) (fun k m => n ≤ m ∧ (∀ s ∈ l.take k, min s.size 10000 ≤ m) ∧ m ≤ i * 1000000 + k * 10000) n (Weak.list _ (Sub.refl _) (by (try simp +decide (implicitDefEqProofs := false) only [go_sem, ↓stk_g, ↓stk_c, ↓reduceIte]))) ⟨Nat.le_refl _, fun s hs => (by rw [List.take_zero] at hs; cases hs), Nat.le_add_right_of_le hJ2⟩ ?_
    rintro k m hk ⟨hM1, hM2, hM3⟩
    by_cases hkl : k < l.length
    · have g2 : (k : Int) < (l.length : Int) := by omega
      have hwk := wrap_in (n := (k : Int) + 1) (by omega) (by omega)
      have hgk := strRows_get hkl
      have hget : l.getD k ByteArray.empty = l[k] := by simp [hkl]
      have hmin : min ((l.getD k ByteArray.empty).size : Int) 10000 = ((min (l.getD k ByteArray.empty).size 10000 : Nat) : Int) := by omega
      have hmb : min (l.getD k ByteArray.empty).size 10000 ≤ 10000 := by omega
      have hlast : ∀ s ∈ l.take (k + 1), min s.size 10000 ≤ m + min (l.getD k ByteArray.empty).size 10000 := fun s hs => by
        rw [List.take_succ_eq_append_getElem hkl] at hs
        simp only [List.mem_append, List.mem_singleton] at hs
        rcases hs with hs | rfl
        · have := hM2 s hs; omega
        · rw [hget]; omega
      generalize min (l.getD k ByteArray.empty).size 10000 = w at hmin hmb hlast
      have hwm := wrap_in (n := (m : Int) + (w : Int)) (by omega) (by omega)
      have hcast : (m : Int) + (w : Int) = ((m + w : Nat) : Int) := by omega
      (try simp +decide (implicitDefEqProofs := false) only [go_sem, ↓stk_g, ↓stk_c, ↓reduceIte, g2, hkl, hgk, hmin, hwm, hwk])
      refine ⟨m + w, Weak.list _ (Sub.refl _) (by (try simp +decide (implicitDefEqProofs := false) only [go_sem, ↓stk_g, ↓stk_c, ↓reduceIte])), by omega, hlast, by omega⟩
    · have g2 : ¬ (k : Int) < (l.length : Int) := by omega
      rw [List.take_of_length_le (by omega)] at hM2
      (try simp +decide (implicitDefEqProofs := false) only [go_sem, ↓stk_g, ↓stk_c, ↓reduceIte, g2, hwi])
      refine ⟨m, Weak.list _ (Sub.refl _) (by (try simp +decide (implicitDefEqProofs := false) only [go_sem, ↓stk_g, ↓stk_c, ↓reduceIte])), fun j hj => ?_, by omega⟩
      by_cases e : j = i
      · subst e
        rw [hl]
        exact ⟨by omega, hM2⟩
      · obtain ⟨q1, q2⟩ := hJ1 j (by omega)
        exact ⟨q1, fun s hs => by have := q2 s hs; omega⟩
  · have g1 : ¬ (i : Int) < ((5 : Nat) : Int) := by omega
    obtain rfl : i = 5 := by omega
    (try simp +decide (implicitDefEqProofs := false) only [go_sem, ↓stk_g, ↓stk_c, ↓reduceIte, g1])
    refine aret_pure (.inr rfl) ?_; simp +decide only [retOf, tget, if_true, if_false, ↓reduceIte, List.map_cons, List.map_nil]
    refine ⟨_, rfl, fun h => fits_of fun i hi => ?_⟩
    have h := of_decide_eq_true h
    obtain ⟨q1, q2⟩ := hJ1 i hi
    exact ⟨q1, fun s hs => by have := q2 s hs; omega⟩
def p0 : Pol := ⟨1, [(⟨#[97]⟩ : ByteArray)], [(⟨#[97, 46, 104, 114, 101, 102]⟩ : ByteArray)], [], [], [], 9, 99, 999⟩
theorem p0_fits : Fits p0 := fits_of fun i hi => by
  rcases i with _ | _ | _ | _ | _ | i
  · exact ⟨by decide, by decide⟩
  · exact ⟨by decide, by decide⟩
  · exact ⟨by decide, by decide⟩
  · exact ⟨by decide, by decide⟩
  · exact ⟨by decide, by decide⟩
  · omega
theorem p0_right : rightP p0 = true := by decide +kernel
theorem p0_lets : letsP p0 (⟨#[97]⟩ : ByteArray) (⟨#[104, 114, 101, 102]⟩ : ByteArray) = true := by decide +kernel
theorem itoa3 : itoaS 1 = (⟨#[49]⟩ : ByteArray) ∧ itoaS 9 = (⟨#[57]⟩ : ByteArray) ∧ itoaS 99 = (⟨#[57, 57]⟩ : ByteArray) ∧ itoaS 999 = (⟨#[57, 57, 57]⟩ : ByteArray) := by
  have e : ∀ n : Nat, itoaS (n : Int) = ⟨(Lib.decDigits n).toArray⟩ := fun n => by
    unfold itoaS Lib.itoa
    rw [if_neg (by omega)]; simp
  have h1 := e 1
  have h9 := e 9
  have h99 := e 99
  have h999 := e 999
  rw [Lib.decDigits_one (by omega)] at h1 h9
  rw [Lib.decDigits_two (by omega) (by omega)] at h99
  rw [Lib.decDigits, dif_neg (by omega), Lib.decDigits_two (by omega) (by omega)] at h999
  refine ⟨h1.trans ?_, h9.trans ?_, h99.trans ?_, h999.trans ?_⟩ <;> decide +kernel
def awakeS : Str := ⟨#[101, 112, 111, 99, 104, 32, 49, 10, 101, 108, 101, 109, 32, 97, 10, 97, 116, 116, 114, 32, 97, 46, 104, 114, 101, 102, 10, 99, 97, 112, 115, 32, 57, 32, 57, 57, 32, 57, 57, 57, 10]⟩
theorem p0_text : textP p0 = awakeS := by
  obtain ⟨h1, h2, h3, h4⟩ := itoa3
  have e : textP p0 = linesS (heads.getD 4 ByteArray.empty) (linesS (heads.getD 3 ByteArray.empty) (linesS (heads.getD 2 ByteArray.empty) (linesS (heads.getD 1 ByteArray.empty) (linesS (heads.getD 0 ByteArray.empty) (ByteArray.empty ++ lineS [(⟨#[101, 112, 111, 99, 104]⟩ : ByteArray), itoaS 1]) [(⟨#[97]⟩ : ByteArray)]) [(⟨#[97, 46, 104, 114, 101, 102]⟩ : ByteArray)]) []) []) [] ++ lineS [(⟨#[99, 97, 112, 115]⟩ : ByteArray), itoaS 9, itoaS 99, itoaS 999] := rfl
  rw [e, h1, h2, h3, h4]
  decide +kernel
theorem FZ.pol0 {H H' : AHeap} : ∀ j (hj : j < 9), FZ H H' ([AVal.v (.int .i64 1), .sl true 1 [[.v (.string (⟨#[97]⟩ : ByteArray))]], .sl true 1 [[.v (.string (⟨#[97, 46, 104, 114, 101, 102]⟩ : ByteArray))]], .v (.slice none 0 0), .v (.slice none 0 0), .v (.slice none 0 0), .v (.int .i64 9), .v (.int .i64 99), .v (.int .i64 999)][j]'hj) ((polCells p0)[j]'hj)
  | 0, _ => .refl _
  | 1, _ => .loose _ _ _
  | 2, _ => .loose _ _ _
  | 3, _ => .nil _
  | 4, _ => .nil _
  | 5, _ => .nil _
  | 6, _ => .refl _
  | 7, _ => .refl _
  | 8, _ => .refl _
end Go.Proofs.YtcplmaffccfbdaaGreatDoor.M
