/-
  versolaw04.fine: it returns true of every tree that is fine.
-/
import Derived.Test.YtidicfdcjoggpaaBridge2
import Derived.Test.YtidicfdcjoggpaaDomFineDef
namespace Go.Proofs.Ytidicfdcjoggpaa.M
open Go.RowKit
attribute [local go_sem] stk_nil stk_skip stk_ops stk_seq stk_block stk_scope stk_exit stk_ret stk_code_exit stk_code_ret stk_ops_exit stk_ops_ret stk_endb stk_endb_exit stk_endb_ret stk_endl stk_endl_exit stk_endl_ret stk_ops_nil stk_q stk_niq niqA flip srcOf stk_bsl side val bside bval uside uval cside cval bndS bndV intA isInt lside lval fside fval faside faval iside ival sxside sxval sizeA slside slval llside llval lenside lenval lenA tupA mmside mmval nkside boolA isBool ev_t ev_c tget put_s put_n lkside lkval menval stk_mk Option.isSome_some isMapA mapA keyA FZ_rfl FZ_any retOf true_and and_true if_true if_false decide_true decide_false Bool.not_true Bool.not_false Nat.zero_add List.map_cons List.map_nil Int.toNat_natCast strRows_len intRows_len List.getD_cons_zero List.getD_cons_succ List.length_cons List.length_nil List.forall_mem_cons List.not_mem_nil false_implies implies_true Int.ofNat_zero Int.natCast_add Int.natCast_one Int.ofNat_one Int.natCast_zero isB isU Bool.false_eq_true beq_self_eq_true Bool.false_beq Bool.true_beq Int.natCast_nonneg undef strRows_take strRows_drop Int.toNat_zero List.drop_zero Bool.and_true oneOr List.all_cons List.all_nil AVal.one Value.oneCell' Bool.true_and List.take_length stk_st' stside stH hp_self hp_hp isnside isnval
set_option linter.unusedVariables false
set_option linter.unusedSimpArgs false
theorem block_ok {W : World} (nm : Str) : ACalls Try.prog W 19 [.v (.string nm)] AHeap.none fun v _ => v = .v (.bool (isBlock nm)) :=
  lift_one (fun S w u hu => by cases hu; exact (block_any nm w).mono fun e w' h => ⟨h.1, h.2 ▸ Below.refl _ _⟩) (fun S w => .v _)
theorem void_ok {W : World} (nm : Str) : ACalls Try.prog W 17 [.v (.string nm)] AHeap.none fun v _ => v = .v (.bool (isVoid nm)) :=
  lift_one (fun S w u hu => by cases hu; exact (void_any nm w).mono fun e w' h => ⟨h.1, h.2 ▸ Below.refl _ _⟩) (fun S w => .v _)
instance : Inhabited Node := ⟨⟨ByteArray.empty, [], ByteArray.empty, []⟩⟩
theorem nCount_len (l : List Node) : l.length ≤ nCount l := by
  induction l with
  | nil => simp
  | cons n r ih => rw [nCount_cons]; simp only [List.length_cons]; omega
theorem nodeRows_get {l : List Node} {k : Nat} (h : k < l.length) : (l.map nodeRow).getD k [] = [.v (.string l[k].name), .sl false 2 (l[k].attrs.map attrRow), .v (.string l[k].text), .sl false 4 (l[k].kids.map nodeRow)] := by
  rw [← nodeRow_def]; simp [h]
theorem follows : Try.prog.follows .mixedOrders = true := by kernel_rfl
def c_fine : AFn := ⟨3, 108, [6],
  .seq (.ops [⟨(some 6), none, .q (.mv (.const (.bool false)))⟩])
  (.seq (.seq (.ops [⟨(some 7), none, .q (.mv (.const (.int .i64 0)))⟩])
  (.block 0 (.loop (.seq (.seq (.ops [⟨(some 10), none, .q (.mv (.tmp 7))⟩,
          ⟨(some 11), none, .q (.mv (.tmp 0))⟩,
          ⟨(some 12), none, .q (.len false (.tmp 11))⟩,
          ⟨(some 13), none, .q (.bin .lss .num (.tmp 10) (.tmp 12))⟩])
      (.cond (.tmp 13)
        (.skip)
        (.exit 0)))
      (.seq (.block 1 (.seq (.ops [⟨(some 16), none, .q (.mv (.tmp 0))⟩,
            ⟨(some 17), none, .q (.mv (.tmp 7))⟩,
            ⟨(some 18), none, .q (.ixa 4 (.tmp 16) (.tmp 17))⟩,
            ⟨(some 19), none, .q (.ld true 4 (.tmp 18))⟩,
            ⟨(some 8), none, .e (.alloc 37 [(.string ByteArray.empty), (.slice none 0 0), (.string ByteArray.empty), (.slice none 0 0)])⟩,
            ⟨none, none, .e (.st 4 (.tmp 8) (.tmp 19))⟩])
        (.seq (.seq (.ops [⟨(some 20), none, .q (.fad 0 1 (.tmp 8))⟩,
            ⟨(some 21), none, .q (.ld false 1 (.tmp 20))⟩,
            ⟨(some 22), none, .q (.bin .eql .num (.tmp 21) (.const (.string ByteArray.empty)))⟩])
        (.cond (.tmp 22)
          (.seq (.seq (.ops [⟨(some 23), none, .q (.fad 2 1 (.tmp 8))⟩,
              ⟨(some 24), none, .q (.ld false 1 (.tmp 23))⟩,
              ⟨(some 25), none, .q (.bin .eql .num (.tmp 24) (.const (.string ByteArray.empty)))⟩,
              ⟨(some 26), none, .q (.mv (.tmp 25))⟩,
              ⟨(some 27), (some (26, false)), .q (.fad 3 1 (.tmp 8))⟩,
              ⟨(some 28), (some (26, false)), .q (.ld false 1 (.tmp 27))⟩,
              ⟨(some 29), (some (26, false)), .q (.len false (.tmp 28))⟩,
              ⟨(some 30), (some (26, false)), .q (.bin .gtr .num (.tmp 29) (.const (.int .i64 0)))⟩,
              ⟨(some 31), none, .q (.pick (.tmp 26) (.const (.bool true)) (.tmp 30))⟩,
              ⟨(some 32), none, .q (.mv (.tmp 31))⟩,
              ⟨(some 33), (some (32, false)), .q (.fad 1 1 (.tmp 8))⟩,
              ⟨(some 34), (some (32, false)), .q (.ld false 1 (.tmp 33))⟩,
              ⟨(some 35), (some (32, false)), .q (.len false (.tmp 34))⟩,
              ⟨(some 36), (some (32, false)), .q (.bin .gtr .num (.tmp 35) (.const (.int .i64 0)))⟩,
              ⟨(some 37), none, .q (.pick (.tmp 32) (.const (.bool true)) (.tmp 36))⟩,
              ⟨(some 38), none, .q (.mv (.tmp 37))⟩,
              ⟨(some 39), (some (38, false)), .q (.mv (.tmp 7))⟩,
              ⟨(some 40), (some (38, false)), .q (.bin .gtr .num (.tmp 39) (.const (.int .i64 0)))⟩,
              ⟨(some 41), (some (38, false)), .q (.mv (.tmp 40))⟩,
              ⟨(some 42), (some (41, true)), .q (.mv (.tmp 0))⟩,
              ⟨(some 43), (some (41, true)), .q (.mv (.tmp 7))⟩,
              ⟨(some 44), (some (41, true)), .q (.bin .sub .num (.tmp 43) (.const (.int .i64 1)))⟩,
              ⟨(some 45), (some (41, true)), .q (.ixa 4 (.tmp 42) (.tmp 44))⟩,
              ⟨(some 46), (some (41, true)), .q (.fad 0 1 (.tmp 45))⟩,
              ⟨(some 47), (some (41, true)), .q (.ld false 1 (.tmp 46))⟩,
              ⟨(some 48), (some (41, true)), .q (.bin .eql .num (.tmp 47) (.const (.string ByteArray.empty)))⟩,
              ⟨(some 49), (some (38, false)), .q (.pick (.tmp 41) (.tmp 48) (.const (.bool false)))⟩,
              ⟨(some 50), none, .q (.pick (.tmp 38) (.const (.bool true)) (.tmp 49))⟩])
          (.cond (.tmp 50)
            (.seq (.ops [⟨(some 6), none, .q (.mv (.const (.bool false)))⟩])
            (.ret))
            (.skip)))
          (.exit 1))
          (.skip)))
        (.seq (.seq (.ops [⟨(some 51), none, .q (.fad 2 1 (.tmp 8))⟩,
            ⟨(some 52), none, .q (.ld false 1 (.tmp 51))⟩,
            ⟨(some 53), none, .q (.bin .neq .num (.tmp 52) (.const (.string ByteArray.empty)))⟩,
            ⟨(some 54), none, .q (.mv (.tmp 53))⟩,
            ⟨(some 55), (some (54, false)), .q (.mv (.tmp 1))⟩,
            ⟨(some 56), (some (54, false)), .q (.mv (.tmp 55))⟩,
            ⟨(some 57), (some (56, true)), .q (.fad 0 1 (.tmp 8))⟩,
            ⟨(some 58), (some (56, true)), .q (.ld false 1 (.tmp 57))⟩,
            ⟨(some 59), (some (56, true)), .e (.call 19 [(.tmp 58)])⟩,
            ⟨(some 60), (some (54, false)), .q (.pick (.tmp 56) (.tmp 59) (.const (.bool false)))⟩,
            ⟨(some 61), none, .q (.pick (.tmp 54) (.const (.bool true)) (.tmp 60))⟩,
            ⟨(some 62), none, .q (.mv (.tmp 61))⟩,
            ⟨(some 63), (some (62, false)), .q (.mv (.tmp 2))⟩,
            ⟨(some 64), (some (62, false)), .q (.mv (.tmp 63))⟩,
            ⟨(some 65), (some (64, true)), .q (.fad 0 1 (.tmp 8))⟩,
            ⟨(some 66), (some (64, true)), .q (.ld false 1 (.tmp 65))⟩,
            ⟨(some 67), (some (64, true)), .q (.bin .eql .num (.tmp 66) (.const (.string ⟨#[108, 105]⟩)))⟩,
            ⟨(some 68), (some (62, false)), .q (.pick (.tmp 64) (.tmp 67) (.const (.bool false)))⟩,
            ⟨(some 69), none, .q (.pick (.tmp 62) (.const (.bool true)) (.tmp 68))⟩,
            ⟨(some 70), none, .q (.mv (.tmp 69))⟩,
            ⟨(some 71), (some (70, false)), .q (.fad 0 1 (.tmp 8))⟩,
            ⟨(some 72), (some (70, false)), .q (.ld false 1 (.tmp 71))⟩,
            ⟨(some 73), (some (70, false)), .e (.call 17 [(.tmp 72)])⟩,
            ⟨(some 74), (some (70, false)), .q (.mv (.tmp 73))⟩,
            ⟨(some 75), (some (74, true)), .q (.fad 3 1 (.tmp 8))⟩,
            ⟨(some 76), (some (74, true)), .q (.ld false 1 (.tmp 75))⟩,
            ⟨(some 77), (some (74, true)), .q (.len false (.tmp 76))⟩,
            ⟨(some 78), (some (74, true)), .q (.bin .gtr .num (.tmp 77) (.const (.int .i64 0)))⟩,
            ⟨(some 79), (some (70, false)), .q (.pick (.tmp 74) (.tmp 78) (.const (.bool false)))⟩,
            ⟨(some 80), none, .q (.pick (.tmp 70) (.const (.bool true)) (.tmp 79))⟩])
        (.cond (.tmp 80)
          (.seq (.ops [⟨(some 6), none, .q (.mv (.const (.bool false)))⟩])
          (.ret))
          (.skip)))
        (.seq (.ops [⟨(some 81), none, .q (.mv (.tmp 2))⟩,
            ⟨(some 82), none, .q (.mv (.tmp 81))⟩,
            ⟨(some 83), (some (82, true)), .q (.fad 0 1 (.tmp 8))⟩,
            ⟨(some 84), (some (82, true)), .q (.ld false 1 (.tmp 83))⟩,
            ⟨(some 85), (some (82, true)), .q (.bin .neq .num (.tmp 84) (.const (.string ⟨#[117, 108]⟩)))⟩,
            ⟨(some 86), none, .q (.pick (.tmp 82) (.tmp 85) (.const (.bool false)))⟩,
            ⟨(some 87), none, .q (.mv (.tmp 86))⟩,
            ⟨(some 88), (some (87, true)), .q (.fad 0 1 (.tmp 8))⟩,
            ⟨(some 89), (some (87, true)), .q (.ld false 1 (.tmp 88))⟩,
            ⟨(some 90), (some (87, true)), .q (.bin .neq .num (.tmp 89) (.const (.string ⟨#[111, 108]⟩)))⟩,
            ⟨(some 91), none, .q (.pick (.tmp 87) (.tmp 90) (.const (.bool false)))⟩,
            ⟨(some 92), none, .q (.mv (.tmp 91))⟩,
            ⟨(some 93), (some (92, false)), .q (.fad 0 1 (.tmp 8))⟩,
            ⟨(some 94), (some (92, false)), .q (.ld false 1 (.tmp 93))⟩,
            ⟨(some 95), (some (92, false)), .q (.bin .eql .num (.tmp 94) (.const (.string ⟨#[108, 105]⟩)))⟩,
            ⟨(some 96), none, .q (.pick (.tmp 92) (.const (.bool true)) (.tmp 95))⟩,
            ⟨(some 9), none, .q (.mv (.tmp 96))⟩])
        (.seq (.ops [⟨(some 97), none, .q (.fad 3 1 (.tmp 8))⟩,
            ⟨(some 98), none, .q (.ld false 1 (.tmp 97))⟩,
            ⟨(some 99), none, .q (.mv (.tmp 1))⟩,
            ⟨(some 100), none, .q (.mv (.tmp 99))⟩,
            ⟨(some 101), (some (100, false)), .q (.fad 0 1 (.tmp 8))⟩,
            ⟨(some 102), (some (100, false)), .q (.ld false 1 (.tmp 101))⟩,
            ⟨(some 103), (some (100, false)), .q (.bin .eql .num (.tmp 102) (.const (.string ⟨#[112]⟩)))⟩,
            ⟨(some 104), none, .q (.pick (.tmp 100) (.const (.bool true)) (.tmp 103))⟩,
            ⟨(some 105), none, .q (.mv (.tmp 9))⟩,
            ⟨(some 106), none, .e (.call 26 [(.tmp 98), (.tmp 104), (.tmp 105)])⟩,
            ⟨(some 107), none, .q (.un .not (.tmp 106))⟩])
        (.cond (.tmp 107)
          (.seq (.ops [⟨(some 6), none, .q (.mv (.const (.bool false)))⟩])
          (.ret))
          (.skip))))))))
      (.ops [⟨(some 14), none, .q (.mv (.tmp 7))⟩,
          ⟨(some 15), none, .q (.bin .add .num (.tmp 14) (.const (.int .i64 1)))⟩,
          ⟨(some 7), none, .q (.mv (.tmp 15))⟩]))))))
  (.seq (.ops [⟨(some 6), none, .q (.mv (.const (.bool true)))⟩])
  (.ret))), []⟩
theorem k_fine : compF Try.prog 26 = some c_fine := by kernel_rfl
set_option maxHeartbeats 8000000 in
theorem fine_step {W : World} (n : Nat) (hn : n ≤ 1000000000) (ih : ∀ (l : List Node), nCount l < n → ∀ (p li : Bool), FineL p li false l → ACalls Try.prog W 26 [.sl false 4 (l.map nodeRow), .v (.bool p), .v (.bool li)] AHeap.none fun v _ => v = .v (.bool true)) (l : List Node) (hl : nCount l < n + 1) (p li : Bool) (hf : FineL p li false l) : ACalls Try.prog W 26 [.sl false 4 (l.map nodeRow), .v (.bool p), .v (.bool li)] AHeap.none fun v _ => v = .v (.bool true) := by
  have hll := nCount_len l
  refine fn_run follows k_fine rfl ?_
  simp only [c_fine, aretC_nil, List.zipIdx_cons, List.zipIdx_nil, List.map_cons, List.map_nil, Nat.zero_add]
  (try simp +decide (implicitDefEqProofs := false) only [go_sem, ↓stk_g, ↓stk_c, ↓reduceIte])
  refine stk_up (α := Unit) l.length (fun i _ => ⟨[(7, .v (.int .i64 i)), (0, .sl false 4 (l.map nodeRow)), (1, .v (.bool p)), (2, .v (.bool li))], AHeap.none⟩) (fun _ _ => True) () (Weak.list _ (Sub.refl _) (by (try simp +decide (implicitDefEqProofs := false) only [go_sem, ↓stk_g, ↓stk_c, ↓reduceIte]))) trivial ?_
  rintro k ⟨⟩ hk -
  have hlm : (l.map nodeRow).length = l.length := by simp
  by_cases hlt : k < l.length
  · have g1 : (k : Int) < (l.length : Int) := by omega
    have hw := wrap_in (n := k + 1) (by omega) (by omega)
    have hg := nodeRows_get hlt
    have hfk := FineL_at hf hlt
    have hck := nCount_le l k hlt
    have hprev : ∀ m, k = m + 1 → (l.map nodeRow).getD m [] = [.v (.string l[m]!.name), .sl false 2 (l[m]!.attrs.map attrRow), .v (.string l[m]!.text), .sl false 4 (l[m]!.kids.map nodeRow)] := by
      intro m hm
      have hm' : m < l.length := by omega
      rw [nodeRows_get hm', getElem!_pos l m hm']
    have hpn : ∀ m, k = m + 1 → prevAt false l k = decide (l[m]!.name = ByteArray.empty) := by
      rintro m rfl
      have hm' : m < l.length := by omega
      simp [prevAt, hm']
    generalize l[k] = x at hg hfk hck
    obtain ⟨nm, ats, tx, ks⟩ := x
    dsimp only at hg hck
    obtain ⟨hf1, hf2⟩ := hfk
    dsimp only at hf1 hf2
    have ihk := ih ks (by omega)
    have hlk : (ks.map nodeRow).length = ks.length := by simp
    generalize ks.map nodeRow = kr at hg ihk hlk
    (try simp +decide (implicitDefEqProofs := false) only [go_sem, ↓stk_g, ↓stk_c, ↓reduceIte, g1, hlm, hg, hlt, lay, oneOr, List.take_succ_cons, List.take_zero, List.drop_succ_cons, List.drop_zero, List.nil_append, List.cons_append, Option.getD_some, Nat.reduceAdd, Nat.reduceLeDiff, List.append_nil, and_self, List.all_cons, List.all_nil])
    rw [stk_alloc]
    intro b hb
    by_cases e0 : nm = ByteArray.empty
    · obtain ⟨f1, f2, f3, f4⟩ := hf1 e0
      have d0 := decide_eq_true e0
      have d1 := decide_eq_false f1
      subst f2 f3
      obtain rfl : kr = [] := List.length_eq_zero_iff.1 hlk
      rcases k with _ | m
      · have w0 : IntKind.i64.wrap (0 + 1) = 0 + 1 := by decide
        (try simp +decide (implicitDefEqProofs := false) only [go_sem, ↓stk_g, ↓stk_c, ↓reduceIte, d0, d1, w0, lay, oneOr, List.take_succ_cons, List.take_zero, List.drop_succ_cons, List.drop_zero, List.nil_append, List.cons_append, Option.getD_some, Nat.reduceAdd, Nat.reduceLeDiff, List.append_nil, and_self, List.all_cons, List.all_nil])
        first | exact ⟨by omega, (), Weak.list _ (Sub.none _) (by (try simp +decide (implicitDefEqProofs := false) only [go_sem, ↓stk_g, ↓stk_c, ↓reduceIte])), trivial⟩ | exact ⟨by omega, (), Weak.list _ (Sub.none _) (by (try simp +decide (implicitDefEqProofs := false) only [go_sem, ↓stk_g, ↓stk_c, ↓reduceIte]))⟩ | exact ⟨by omega, Weak.list _ (Sub.none _) (by (try simp +decide (implicitDefEqProofs := false) only [go_sem, ↓stk_g, ↓stk_c, ↓reduceIte]))⟩ | exact ⟨(), Weak.list _ (Sub.none _) (by (try simp +decide (implicitDefEqProofs := false) only [go_sem, ↓stk_g, ↓stk_c, ↓reduceIte]))⟩
      · have hp := hprev m rfl
        have hq := hpn m rfl
        rw [f4] at hq
        have g2 : (0 : Int) < (m : Int) + 1 := by omega
        have w2 : IntKind.i64.wrap ((m : Int) + 1 - 1) = (m : Int) := by rw [IntKind.wrap_i64]; omega
        have w3 := wrap_in (n := (m : Int) + 1 + 1) (by omega) (by omega)
        have g3 : (m : Int) < (l.length : Int) := by omega
        have g4 : m < l.length := by omega
        have hq' := hq.symm
        generalize l[m]!.name = pn at hp hq'
        (try simp +decide (implicitDefEqProofs := false) only [go_sem, ↓stk_g, ↓stk_c, ↓reduceIte, d0, d1, g2, w2, w3, g3, g4, hlm, hp, hq', lay, oneOr, List.take_succ_cons, List.take_zero, List.drop_succ_cons, List.drop_zero, List.nil_append, List.cons_append, Option.getD_some, Nat.reduceAdd, Nat.reduceLeDiff, List.append_nil, and_self, List.all_cons, List.all_nil])
        first | exact ⟨by omega, (), Weak.list _ (Sub.none _) (by (try simp +decide (implicitDefEqProofs := false) only [go_sem, ↓stk_g, ↓stk_c, ↓reduceIte])), trivial⟩ | exact ⟨by omega, (), Weak.list _ (Sub.none _) (by (try simp +decide (implicitDefEqProofs := false) only [go_sem, ↓stk_g, ↓stk_c, ↓reduceIte]))⟩ | exact ⟨by omega, Weak.list _ (Sub.none _) (by (try simp +decide (implicitDefEqProofs := false) only [go_sem, ↓stk_g, ↓stk_c, ↓reduceIte]))⟩ | exact ⟨(), Weak.list _ (Sub.none _) (by (try simp +decide (implicitDefEqProofs := false) only [go_sem, ↓stk_g, ↓stk_c, ↓reduceIte]))⟩
    · obtain ⟨rfl, f2, f3, f4, f5⟩ := hf2 e0
      have d0 := decide_eq_false e0
      rw [inLi] at f5
      have hkz : isVoid nm = true → ¬ (0 < (kr.length : Int)) := fun hv => by rw [hlk, f4 hv]; simp
      cases p
      · simp only [Bool.false_or] at f5
        cases hv : isVoid nm
        · have hkz : True := trivial
          cases li
          · simp only [Bool.false_and, Bool.false_or] at f5
            (try simp +decide (implicitDefEqProofs := false) only [go_sem, ↓stk_g, ↓stk_c, ↓reduceIte, d0, lay, oneOr, List.take_succ_cons, List.take_zero, List.drop_succ_cons, List.drop_zero, List.nil_append, List.cons_append, Option.getD_some, Nat.reduceAdd, Nat.reduceLeDiff, List.append_nil, and_self, List.all_cons, List.all_nil, ne_eq, not_true_eq_false])
            refine stk_pure (void_ok nm) fun v hv => ?_
            subst hv
            (try simp +decide (implicitDefEqProofs := false) only [go_sem, ↓stk_g, ↓stk_c, ↓reduceIte, hv, lay, oneOr, List.take_succ_cons, List.take_zero, List.drop_succ_cons, List.drop_zero, List.nil_append, List.cons_append, Option.getD_some, Nat.reduceAdd, Nat.reduceLeDiff, List.append_nil, and_self, List.all_cons, List.all_nil])
            refine stk_pure (ihk _ _ f5) fun v hv => ?_
            subst hv
            (try simp +decide (implicitDefEqProofs := false) only [go_sem, ↓stk_g, ↓stk_c, ↓reduceIte, hw])
            first | exact ⟨by omega, (), Weak.list _ (Sub.none _) (by (try simp +decide (implicitDefEqProofs := false) only [go_sem, ↓stk_g, ↓stk_c, ↓reduceIte])), trivial⟩ | exact ⟨by omega, (), Weak.list _ (Sub.none _) (by (try simp +decide (implicitDefEqProofs := false) only [go_sem, ↓stk_g, ↓stk_c, ↓reduceIte]))⟩ | exact ⟨by omega, Weak.list _ (Sub.none _) (by (try simp +decide (implicitDefEqProofs := false) only [go_sem, ↓stk_g, ↓stk_c, ↓reduceIte]))⟩ | exact ⟨(), Weak.list _ (Sub.none _) (by (try simp +decide (implicitDefEqProofs := false) only [go_sem, ↓stk_g, ↓stk_c, ↓reduceIte]))⟩
          · have d1 := decide_eq_false (f3 rfl)
            have d1' : decide (nm = (⟨#[108, 105]⟩ : Str)) = false := d1
            by_cases eu : nm = bUl
            · have u1 : decide (nm ≠ (⟨#[117, 108]⟩ : Str)) = false := by simpa [bUl] using eu
              rw [show decide (nm ≠ bUl) = false from u1] at f5
              simp only [Bool.false_and, Bool.and_false, Bool.true_and, Bool.false_or] at f5
              (try simp +decide (implicitDefEqProofs := false) only [go_sem, ↓stk_g, ↓stk_c, ↓reduceIte, d0, d1', lay, oneOr, List.take_succ_cons, List.take_zero, List.drop_succ_cons, List.drop_zero, List.nil_append, List.cons_append, Option.getD_some, Nat.reduceAdd, Nat.reduceLeDiff, List.append_nil, and_self, List.all_cons, List.all_nil, ne_eq, not_true_eq_false])
              refine stk_pure (void_ok nm) fun v hv => ?_
              subst hv
              (try simp +decide (implicitDefEqProofs := false) only [go_sem, ↓stk_g, ↓stk_c, ↓reduceIte, hv, hkz, u1, lay, oneOr, List.take_succ_cons, List.take_zero, List.drop_succ_cons, List.drop_zero, List.nil_append, List.cons_append, Option.getD_some, Nat.reduceAdd, Nat.reduceLeDiff, List.append_nil, and_self, List.all_cons, List.all_nil])
              refine stk_pure (ihk _ _ f5) fun v hv => ?_
              subst hv
              (try simp +decide (implicitDefEqProofs := false) only [go_sem, ↓stk_g, ↓stk_c, ↓reduceIte, hw])
              first | exact ⟨by omega, (), Weak.list _ (Sub.none _) (by (try simp +decide (implicitDefEqProofs := false) only [go_sem, ↓stk_g, ↓stk_c, ↓reduceIte])), trivial⟩ | exact ⟨by omega, (), Weak.list _ (Sub.none _) (by (try simp +decide (implicitDefEqProofs := false) only [go_sem, ↓stk_g, ↓stk_c, ↓reduceIte]))⟩ | exact ⟨by omega, Weak.list _ (Sub.none _) (by (try simp +decide (implicitDefEqProofs := false) only [go_sem, ↓stk_g, ↓stk_c, ↓reduceIte]))⟩ | exact ⟨(), Weak.list _ (Sub.none _) (by (try simp +decide (implicitDefEqProofs := false) only [go_sem, ↓stk_g, ↓stk_c, ↓reduceIte]))⟩
            · have u1 : decide (nm ≠ (⟨#[117, 108]⟩ : Str)) = true := by simpa [bUl] using eu
              rw [show decide (nm ≠ bUl) = true from u1] at f5
              by_cases eo : nm = bOl
              · have o1 : decide (nm ≠ (⟨#[111, 108]⟩ : Str)) = false := by simpa [bOl] using eo
                rw [show decide (nm ≠ bOl) = false from o1] at f5
                simp only [Bool.false_and, Bool.and_false, Bool.true_and, Bool.false_or] at f5
                (try simp +decide (implicitDefEqProofs := false) only [go_sem, ↓stk_g, ↓stk_c, ↓reduceIte, d0, d1', lay, oneOr, List.take_succ_cons, List.take_zero, List.drop_succ_cons, List.drop_zero, List.nil_append, List.cons_append, Option.getD_some, Nat.reduceAdd, Nat.reduceLeDiff, List.append_nil, and_self, List.all_cons, List.all_nil, ne_eq, not_true_eq_false])
                refine stk_pure (void_ok nm) fun v hv => ?_
                subst hv
                (try simp +decide (implicitDefEqProofs := false) only [go_sem, ↓stk_g, ↓stk_c, ↓reduceIte, hv, hkz, u1, o1, lay, oneOr, List.take_succ_cons, List.take_zero, List.drop_succ_cons, List.drop_zero, List.nil_append, List.cons_append, Option.getD_some, Nat.reduceAdd, Nat.reduceLeDiff, List.append_nil, and_self, List.all_cons, List.all_nil])
                refine stk_pure (ihk _ _ f5) fun v hv => ?_
                subst hv
                (try simp +decide (implicitDefEqProofs := false) only [go_sem, ↓stk_g, ↓stk_c, ↓reduceIte, hw])
                first | exact ⟨by omega, (), Weak.list _ (Sub.none _) (by (try simp +decide (implicitDefEqProofs := false) only [go_sem, ↓stk_g, ↓stk_c, ↓reduceIte])), trivial⟩ | exact ⟨by omega, (), Weak.list _ (Sub.none _) (by (try simp +decide (implicitDefEqProofs := false) only [go_sem, ↓stk_g, ↓stk_c, ↓reduceIte]))⟩ | exact ⟨by omega, Weak.list _ (Sub.none _) (by (try simp +decide (implicitDefEqProofs := false) only [go_sem, ↓stk_g, ↓stk_c, ↓reduceIte]))⟩ | exact ⟨(), Weak.list _ (Sub.none _) (by (try simp +decide (implicitDefEqProofs := false) only [go_sem, ↓stk_g, ↓stk_c, ↓reduceIte]))⟩
              · have o1 : decide (nm ≠ (⟨#[111, 108]⟩ : Str)) = true := by simpa [bOl] using eo
                rw [show decide (nm ≠ bOl) = true from o1] at f5
                simp only [Bool.false_and, Bool.and_false, Bool.true_and, Bool.true_or] at f5
                (try simp +decide (implicitDefEqProofs := false) only [go_sem, ↓stk_g, ↓stk_c, ↓reduceIte, d0, d1', lay, oneOr, List.take_succ_cons, List.take_zero, List.drop_succ_cons, List.drop_zero, List.nil_append, List.cons_append, Option.getD_some, Nat.reduceAdd, Nat.reduceLeDiff, List.append_nil, and_self, List.all_cons, List.all_nil, ne_eq, not_true_eq_false])
                refine stk_pure (void_ok nm) fun v hv => ?_
                subst hv
                (try simp +decide (implicitDefEqProofs := false) only [go_sem, ↓stk_g, ↓stk_c, ↓reduceIte, hv, hkz, u1, o1, lay, oneOr, List.take_succ_cons, List.take_zero, List.drop_succ_cons, List.drop_zero, List.nil_append, List.cons_append, Option.getD_some, Nat.reduceAdd, Nat.reduceLeDiff, List.append_nil, and_self, List.all_cons, List.all_nil])
                refine stk_pure (ihk _ _ f5) fun v hv => ?_
                subst hv
                (try simp +decide (implicitDefEqProofs := false) only [go_sem, ↓stk_g, ↓stk_c, ↓reduceIte, hw])
                first | exact ⟨by omega, (), Weak.list _ (Sub.none _) (by (try simp +decide (implicitDefEqProofs := false) only [go_sem, ↓stk_g, ↓stk_c, ↓reduceIte])), trivial⟩ | exact ⟨by omega, (), Weak.list _ (Sub.none _) (by (try simp +decide (implicitDefEqProofs := false) only [go_sem, ↓stk_g, ↓stk_c, ↓reduceIte]))⟩ | exact ⟨by omega, Weak.list _ (Sub.none _) (by (try simp +decide (implicitDefEqProofs := false) only [go_sem, ↓stk_g, ↓stk_c, ↓reduceIte]))⟩ | exact ⟨(), Weak.list _ (Sub.none _) (by (try simp +decide (implicitDefEqProofs := false) only [go_sem, ↓stk_g, ↓stk_c, ↓reduceIte]))⟩
        · have hkz := hkz hv
          cases li
          · simp only [Bool.false_and, Bool.false_or] at f5
            (try simp +decide (implicitDefEqProofs := false) only [go_sem, ↓stk_g, ↓stk_c, ↓reduceIte, d0, lay, oneOr, List.take_succ_cons, List.take_zero, List.drop_succ_cons, List.drop_zero, List.nil_append, List.cons_append, Option.getD_some, Nat.reduceAdd, Nat.reduceLeDiff, List.append_nil, and_self, List.all_cons, List.all_nil, ne_eq, not_true_eq_false])
            refine stk_pure (void_ok nm) fun v hv => ?_
            subst hv
            (try simp +decide (implicitDefEqProofs := false) only [go_sem, ↓stk_g, ↓stk_c, ↓reduceIte, hv, hkz, lay, oneOr, List.take_succ_cons, List.take_zero, List.drop_succ_cons, List.drop_zero, List.nil_append, List.cons_append, Option.getD_some, Nat.reduceAdd, Nat.reduceLeDiff, List.append_nil, and_self, List.all_cons, List.all_nil])
            refine stk_pure (ihk _ _ f5) fun v hv => ?_
            subst hv
            (try simp +decide (implicitDefEqProofs := false) only [go_sem, ↓stk_g, ↓stk_c, ↓reduceIte, hw])
            first | exact ⟨by omega, (), Weak.list _ (Sub.none _) (by (try simp +decide (implicitDefEqProofs := false) only [go_sem, ↓stk_g, ↓stk_c, ↓reduceIte])), trivial⟩ | exact ⟨by omega, (), Weak.list _ (Sub.none _) (by (try simp +decide (implicitDefEqProofs := false) only [go_sem, ↓stk_g, ↓stk_c, ↓reduceIte]))⟩ | exact ⟨by omega, Weak.list _ (Sub.none _) (by (try simp +decide (implicitDefEqProofs := false) only [go_sem, ↓stk_g, ↓stk_c, ↓reduceIte]))⟩ | exact ⟨(), Weak.list _ (Sub.none _) (by (try simp +decide (implicitDefEqProofs := false) only [go_sem, ↓stk_g, ↓stk_c, ↓reduceIte]))⟩
          · have d1 := decide_eq_false (f3 rfl)
            have d1' : decide (nm = (⟨#[108, 105]⟩ : Str)) = false := d1
            by_cases eu : nm = bUl
            · have u1 : decide (nm ≠ (⟨#[117, 108]⟩ : Str)) = false := by simpa [bUl] using eu
              rw [show decide (nm ≠ bUl) = false from u1] at f5
              simp only [Bool.false_and, Bool.and_false, Bool.true_and, Bool.false_or] at f5
              (try simp +decide (implicitDefEqProofs := false) only [go_sem, ↓stk_g, ↓stk_c, ↓reduceIte, d0, d1', lay, oneOr, List.take_succ_cons, List.take_zero, List.drop_succ_cons, List.drop_zero, List.nil_append, List.cons_append, Option.getD_some, Nat.reduceAdd, Nat.reduceLeDiff, List.append_nil, and_self, List.all_cons, List.all_nil, ne_eq, not_true_eq_false])
              refine stk_pure (void_ok nm) fun v hv => ?_
              subst hv
              (try simp +decide (implicitDefEqProofs := false) only [go_sem, ↓stk_g, ↓stk_c, ↓reduceIte, hv, hkz, u1, lay, oneOr, List.take_succ_cons, List.take_zero, List.drop_succ_cons, List.drop_zero, List.nil_append, List.cons_append, Option.getD_some, Nat.reduceAdd, Nat.reduceLeDiff, List.append_nil, and_self, List.all_cons, List.all_nil])
              refine stk_pure (ihk _ _ f5) fun v hv => ?_
              subst hv
              (try simp +decide (implicitDefEqProofs := false) only [go_sem, ↓stk_g, ↓stk_c, ↓reduceIte, hw])
              first | exact ⟨by omega, (), Weak.list _ (Sub.none _) (by (try simp +decide (implicitDefEqProofs := false) only [go_sem, ↓stk_g, ↓stk_c, ↓reduceIte])), trivial⟩ | exact ⟨by omega, (), Weak.list _ (Sub.none _) (by (try simp +decide (implicitDefEqProofs := false) only [go_sem, ↓stk_g, ↓stk_c, ↓reduceIte]))⟩ | exact ⟨by omega, Weak.list _ (Sub.none _) (by (try simp +decide (implicitDefEqProofs := false) only [go_sem, ↓stk_g, ↓stk_c, ↓reduceIte]))⟩ | exact ⟨(), Weak.list _ (Sub.none _) (by (try simp +decide (implicitDefEqProofs := false) only [go_sem, ↓stk_g, ↓stk_c, ↓reduceIte]))⟩
            · have u1 : decide (nm ≠ (⟨#[117, 108]⟩ : Str)) = true := by simpa [bUl] using eu
              rw [show decide (nm ≠ bUl) = true from u1] at f5
              by_cases eo : nm = bOl
              · have o1 : decide (nm ≠ (⟨#[111, 108]⟩ : Str)) = false := by simpa [bOl] using eo
                rw [show decide (nm ≠ bOl) = false from o1] at f5
                simp only [Bool.false_and, Bool.and_false, Bool.true_and, Bool.false_or] at f5
                (try simp +decide (implicitDefEqProofs := false) only [go_sem, ↓stk_g, ↓stk_c, ↓reduceIte, d0, d1', lay, oneOr, List.take_succ_cons, List.take_zero, List.drop_succ_cons, List.drop_zero, List.nil_append, List.cons_append, Option.getD_some, Nat.reduceAdd, Nat.reduceLeDiff, List.append_nil, and_self, List.all_cons, List.all_nil, ne_eq, not_true_eq_false])
                refine stk_pure (void_ok nm) fun v hv => ?_
                subst hv
                (try simp +decide (implicitDefEqProofs := false) only [go_sem, ↓stk_g, ↓stk_c, ↓reduceIte, hv, hkz, u1, o1, lay, oneOr, List.take_succ_cons, List.take_zero, List.drop_succ_cons, List.drop_zero, List.nil_append, List.cons_append, Option.getD_some, Nat.reduceAdd, Nat.reduceLeDiff, List.append_nil, and_self, List.all_cons, List.all_nil])
                refine stk_pure (ihk _ _ f5) fun v hv => ?_
                subst hv
                (try simp +decide (implicitDefEqProofs := false) only [go_sem, ↓stk_g, ↓stk_c, ↓reduceIte, hw])
                first | exact ⟨by omega, (), Weak.list _ (Sub.none _) (by (try simp +decide (implicitDefEqProofs := false) only [go_sem, ↓stk_g, ↓stk_c, ↓reduceIte])), trivial⟩ | exact ⟨by omega, (), Weak.list _ (Sub.none _) (by (try simp +decide (implicitDefEqProofs := false) only [go_sem, ↓stk_g, ↓stk_c, ↓reduceIte]))⟩ | exact ⟨by omega, Weak.list _ (Sub.none _) (by (try simp +decide (implicitDefEqProofs := false) only [go_sem, ↓stk_g, ↓stk_c, ↓reduceIte]))⟩ | exact ⟨(), Weak.list _ (Sub.none _) (by (try simp +decide (implicitDefEqProofs := false) only [go_sem, ↓stk_g, ↓stk_c, ↓reduceIte]))⟩
              · have o1 : decide (nm ≠ (⟨#[111, 108]⟩ : Str)) = true := by simpa [bOl] using eo
                rw [show decide (nm ≠ bOl) = true from o1] at f5
                simp only [Bool.false_and, Bool.and_false, Bool.true_and, Bool.true_or] at f5
                (try simp +decide (implicitDefEqProofs := false) only [go_sem, ↓stk_g, ↓stk_c, ↓reduceIte, d0, d1', lay, oneOr, List.take_succ_cons, List.take_zero, List.drop_succ_cons, List.drop_zero, List.nil_append, List.cons_append, Option.getD_some, Nat.reduceAdd, Nat.reduceLeDiff, List.append_nil, and_self, List.all_cons, List.all_nil, ne_eq, not_true_eq_false])
                refine stk_pure (void_ok nm) fun v hv => ?_
                subst hv
                (try simp +decide (implicitDefEqProofs := false) only [go_sem, ↓stk_g, ↓stk_c, ↓reduceIte, hv, hkz, u1, o1, lay, oneOr, List.take_succ_cons, List.take_zero, List.drop_succ_cons, List.drop_zero, List.nil_append, List.cons_append, Option.getD_some, Nat.reduceAdd, Nat.reduceLeDiff, List.append_nil, and_self, List.all_cons, List.all_nil])
                refine stk_pure (ihk _ _ f5) fun v hv => ?_
                subst hv
                (try simp +decide (implicitDefEqProofs := false) only [go_sem, ↓stk_g, ↓stk_c, ↓reduceIte, hw])
                first | exact ⟨by omega, (), Weak.list _ (Sub.none _) (by (try simp +decide (implicitDefEqProofs := false) only [go_sem, ↓stk_g, ↓stk_c, ↓reduceIte])), trivial⟩ | exact ⟨by omega, (), Weak.list _ (Sub.none _) (by (try simp +decide (implicitDefEqProofs := false) only [go_sem, ↓stk_g, ↓stk_c, ↓reduceIte]))⟩ | exact ⟨by omega, Weak.list _ (Sub.none _) (by (try simp +decide (implicitDefEqProofs := false) only [go_sem, ↓stk_g, ↓stk_c, ↓reduceIte]))⟩ | exact ⟨(), Weak.list _ (Sub.none _) (by (try simp +decide (implicitDefEqProofs := false) only [go_sem, ↓stk_g, ↓stk_c, ↓reduceIte]))⟩
      · have hbl := f2 rfl
        simp only [Bool.true_or] at f5
        cases hv : isVoid nm
        · have hkz : True := trivial
          cases li
          · simp only [Bool.false_and, Bool.false_or] at f5
            (try simp +decide (implicitDefEqProofs := false) only [go_sem, ↓stk_g, ↓stk_c, ↓reduceIte, d0, lay, oneOr, List.take_succ_cons, List.take_zero, List.drop_succ_cons, List.drop_zero, List.nil_append, List.cons_append, Option.getD_some, Nat.reduceAdd, Nat.reduceLeDiff, List.append_nil, and_self, List.all_cons, List.all_nil, ne_eq, not_true_eq_false])
            refine stk_pure (block_ok nm) fun v hv => ?_
            subst hv
            (try simp +decide (implicitDefEqProofs := false) only [go_sem, ↓stk_g, ↓stk_c, ↓reduceIte, hbl, lay, oneOr, List.take_succ_cons, List.take_zero, List.drop_succ_cons, List.drop_zero, List.nil_append, List.cons_append, Option.getD_some, Nat.reduceAdd, Nat.reduceLeDiff, List.append_nil, and_self, List.all_cons, List.all_nil])
            refine stk_pure (void_ok nm) fun v hv => ?_
            subst hv
            (try simp +decide (implicitDefEqProofs := false) only [go_sem, ↓stk_g, ↓stk_c, ↓reduceIte, hv, lay, oneOr, List.take_succ_cons, List.take_zero, List.drop_succ_cons, List.drop_zero, List.nil_append, List.cons_append, Option.getD_some, Nat.reduceAdd, Nat.reduceLeDiff, List.append_nil, and_self, List.all_cons, List.all_nil])
            refine stk_pure (ihk _ _ f5) fun v hv => ?_
            subst hv
            (try simp +decide (implicitDefEqProofs := false) only [go_sem, ↓stk_g, ↓stk_c, ↓reduceIte, hw])
            first | exact ⟨by omega, (), Weak.list _ (Sub.none _) (by (try simp +decide (implicitDefEqProofs := false) only [go_sem, ↓stk_g, ↓stk_c, ↓reduceIte])), trivial⟩ | exact ⟨by omega, (), Weak.list _ (Sub.none _) (by (try simp +decide (implicitDefEqProofs := false) only [go_sem, ↓stk_g, ↓stk_c, ↓reduceIte]))⟩ | exact ⟨by omega, Weak.list _ (Sub.none _) (by (try simp +decide (implicitDefEqProofs := false) only [go_sem, ↓stk_g, ↓stk_c, ↓reduceIte]))⟩ | exact ⟨(), Weak.list _ (Sub.none _) (by (try simp +decide (implicitDefEqProofs := false) only [go_sem, ↓stk_g, ↓stk_c, ↓reduceIte]))⟩
          · have d1 := decide_eq_false (f3 rfl)
            have d1' : decide (nm = (⟨#[108, 105]⟩ : Str)) = false := d1
            by_cases eu : nm = bUl
            · have u1 : decide (nm ≠ (⟨#[117, 108]⟩ : Str)) = false := by simpa [bUl] using eu
              rw [show decide (nm ≠ bUl) = false from u1] at f5
              simp only [Bool.false_and, Bool.and_false, Bool.true_and, Bool.false_or] at f5
              (try simp +decide (implicitDefEqProofs := false) only [go_sem, ↓stk_g, ↓stk_c, ↓reduceIte, d0, d1', lay, oneOr, List.take_succ_cons, List.take_zero, List.drop_succ_cons, List.drop_zero, List.nil_append, List.cons_append, Option.getD_some, Nat.reduceAdd, Nat.reduceLeDiff, List.append_nil, and_self, List.all_cons, List.all_nil, ne_eq, not_true_eq_false])
              refine stk_pure (block_ok nm) fun v hv => ?_
              subst hv
              (try simp +decide (implicitDefEqProofs := false) only [go_sem, ↓stk_g, ↓stk_c, ↓reduceIte, hbl, d1', lay, oneOr, List.take_succ_cons, List.take_zero, List.drop_succ_cons, List.drop_zero, List.nil_append, List.cons_append, Option.getD_some, Nat.reduceAdd, Nat.reduceLeDiff, List.append_nil, and_self, List.all_cons, List.all_nil])
              refine stk_pure (void_ok nm) fun v hv => ?_
              subst hv
              (try simp +decide (implicitDefEqProofs := false) only [go_sem, ↓stk_g, ↓stk_c, ↓reduceIte, hv, hkz, u1, lay, oneOr, List.take_succ_cons, List.take_zero, List.drop_succ_cons, List.drop_zero, List.nil_append, List.cons_append, Option.getD_some, Nat.reduceAdd, Nat.reduceLeDiff, List.append_nil, and_self, List.all_cons, List.all_nil])
              refine stk_pure (ihk _ _ f5) fun v hv => ?_
              subst hv
              (try simp +decide (implicitDefEqProofs := false) only [go_sem, ↓stk_g, ↓stk_c, ↓reduceIte, hw])
              first | exact ⟨by omega, (), Weak.list _ (Sub.none _) (by (try simp +decide (implicitDefEqProofs := false) only [go_sem, ↓stk_g, ↓stk_c, ↓reduceIte])), trivial⟩ | exact ⟨by omega, (), Weak.list _ (Sub.none _) (by (try simp +decide (implicitDefEqProofs := false) only [go_sem, ↓stk_g, ↓stk_c, ↓reduceIte]))⟩ | exact ⟨by omega, Weak.list _ (Sub.none _) (by (try simp +decide (implicitDefEqProofs := false) only [go_sem, ↓stk_g, ↓stk_c, ↓reduceIte]))⟩ | exact ⟨(), Weak.list _ (Sub.none _) (by (try simp +decide (implicitDefEqProofs := false) only [go_sem, ↓stk_g, ↓stk_c, ↓reduceIte]))⟩
            · have u1 : decide (nm ≠ (⟨#[117, 108]⟩ : Str)) = true := by simpa [bUl] using eu
              rw [show decide (nm ≠ bUl) = true from u1] at f5
              by_cases eo : nm = bOl
              · have o1 : decide (nm ≠ (⟨#[111, 108]⟩ : Str)) = false := by simpa [bOl] using eo
                rw [show decide (nm ≠ bOl) = false from o1] at f5
                simp only [Bool.false_and, Bool.and_false, Bool.true_and, Bool.false_or] at f5
                (try simp +decide (implicitDefEqProofs := false) only [go_sem, ↓stk_g, ↓stk_c, ↓reduceIte, d0, d1', lay, oneOr, List.take_succ_cons, List.take_zero, List.drop_succ_cons, List.drop_zero, List.nil_append, List.cons_append, Option.getD_some, Nat.reduceAdd, Nat.reduceLeDiff, List.append_nil, and_self, List.all_cons, List.all_nil, ne_eq, not_true_eq_false])
                refine stk_pure (block_ok nm) fun v hv => ?_
                subst hv
                (try simp +decide (implicitDefEqProofs := false) only [go_sem, ↓stk_g, ↓stk_c, ↓reduceIte, hbl, d1', lay, oneOr, List.take_succ_cons, List.take_zero, List.drop_succ_cons, List.drop_zero, List.nil_append, List.cons_append, Option.getD_some, Nat.reduceAdd, Nat.reduceLeDiff, List.append_nil, and_self, List.all_cons, List.all_nil])
                refine stk_pure (void_ok nm) fun v hv => ?_
                subst hv
                (try simp +decide (implicitDefEqProofs := false) only [go_sem, ↓stk_g, ↓stk_c, ↓reduceIte, hv, hkz, u1, o1, lay, oneOr, List.take_succ_cons, List.take_zero, List.drop_succ_cons, List.drop_zero, List.nil_append, List.cons_append, Option.getD_some, Nat.reduceAdd, Nat.reduceLeDiff, List.append_nil, and_self, List.all_cons, List.all_nil])
                refine stk_pure (ihk _ _ f5) fun v hv => ?_
                subst hv
                (try simp +decide (implicitDefEqProofs := false) only [go_sem, ↓stk_g, ↓stk_c, ↓reduceIte, hw])
                first | exact ⟨by omega, (), Weak.list _ (Sub.none _) (by (try simp +decide (implicitDefEqProofs := false) only [go_sem, ↓stk_g, ↓stk_c, ↓reduceIte])), trivial⟩ | exact ⟨by omega, (), Weak.list _ (Sub.none _) (by (try simp +decide (implicitDefEqProofs := false) only [go_sem, ↓stk_g, ↓stk_c, ↓reduceIte]))⟩ | exact ⟨by omega, Weak.list _ (Sub.none _) (by (try simp +decide (implicitDefEqProofs := false) only [go_sem, ↓stk_g, ↓stk_c, ↓reduceIte]))⟩ | exact ⟨(), Weak.list _ (Sub.none _) (by (try simp +decide (implicitDefEqProofs := false) only [go_sem, ↓stk_g, ↓stk_c, ↓reduceIte]))⟩
              · have o1 : decide (nm ≠ (⟨#[111, 108]⟩ : Str)) = true := by simpa [bOl] using eo
                rw [show decide (nm ≠ bOl) = true from o1] at f5
                simp only [Bool.false_and, Bool.and_false, Bool.true_and, Bool.true_or] at f5
                (try simp +decide (implicitDefEqProofs := false) only [go_sem, ↓stk_g, ↓stk_c, ↓reduceIte, d0, d1', lay, oneOr, List.take_succ_cons, List.take_zero, List.drop_succ_cons, List.drop_zero, List.nil_append, List.cons_append, Option.getD_some, Nat.reduceAdd, Nat.reduceLeDiff, List.append_nil, and_self, List.all_cons, List.all_nil, ne_eq, not_true_eq_false])
                refine stk_pure (block_ok nm) fun v hv => ?_
                subst hv
                (try simp +decide (implicitDefEqProofs := false) only [go_sem, ↓stk_g, ↓stk_c, ↓reduceIte, hbl, d1', lay, oneOr, List.take_succ_cons, List.take_zero, List.drop_succ_cons, List.drop_zero, List.nil_append, List.cons_append, Option.getD_some, Nat.reduceAdd, Nat.reduceLeDiff, List.append_nil, and_self, List.all_cons, List.all_nil])
                refine stk_pure (void_ok nm) fun v hv => ?_
                subst hv
                (try simp +decide (implicitDefEqProofs := false) only [go_sem, ↓stk_g, ↓stk_c, ↓reduceIte, hv, hkz, u1, o1, lay, oneOr, List.take_succ_cons, List.take_zero, List.drop_succ_cons, List.drop_zero, List.nil_append, List.cons_append, Option.getD_some, Nat.reduceAdd, Nat.reduceLeDiff, List.append_nil, and_self, List.all_cons, List.all_nil])
                refine stk_pure (ihk _ _ f5) fun v hv => ?_
                subst hv
                (try simp +decide (implicitDefEqProofs := false) only [go_sem, ↓stk_g, ↓stk_c, ↓reduceIte, hw])
                first | exact ⟨by omega, (), Weak.list _ (Sub.none _) (by (try simp +decide (implicitDefEqProofs := false) only [go_sem, ↓stk_g, ↓stk_c, ↓reduceIte])), trivial⟩ | exact ⟨by omega, (), Weak.list _ (Sub.none _) (by (try simp +decide (implicitDefEqProofs := false) only [go_sem, ↓stk_g, ↓stk_c, ↓reduceIte]))⟩ | exact ⟨by omega, Weak.list _ (Sub.none _) (by (try simp +decide (implicitDefEqProofs := false) only [go_sem, ↓stk_g, ↓stk_c, ↓reduceIte]))⟩ | exact ⟨(), Weak.list _ (Sub.none _) (by (try simp +decide (implicitDefEqProofs := false) only [go_sem, ↓stk_g, ↓stk_c, ↓reduceIte]))⟩
        · have hkz := hkz hv
          cases li
          · simp only [Bool.false_and, Bool.false_or] at f5
            (try simp +decide (implicitDefEqProofs := false) only [go_sem, ↓stk_g, ↓stk_c, ↓reduceIte, d0, lay, oneOr, List.take_succ_cons, List.take_zero, List.drop_succ_cons, List.drop_zero, List.nil_append, List.cons_append, Option.getD_some, Nat.reduceAdd, Nat.reduceLeDiff, List.append_nil, and_self, List.all_cons, List.all_nil, ne_eq, not_true_eq_false])
            refine stk_pure (block_ok nm) fun v hv => ?_
            subst hv
            (try simp +decide (implicitDefEqProofs := false) only [go_sem, ↓stk_g, ↓stk_c, ↓reduceIte, hbl, lay, oneOr, List.take_succ_cons, List.take_zero, List.drop_succ_cons, List.drop_zero, List.nil_append, List.cons_append, Option.getD_some, Nat.reduceAdd, Nat.reduceLeDiff, List.append_nil, and_self, List.all_cons, List.all_nil])
            refine stk_pure (void_ok nm) fun v hv => ?_
            subst hv
            (try simp +decide (implicitDefEqProofs := false) only [go_sem, ↓stk_g, ↓stk_c, ↓reduceIte, hv, hkz, lay, oneOr, List.take_succ_cons, List.take_zero, List.drop_succ_cons, List.drop_zero, List.nil_append, List.cons_append, Option.getD_some, Nat.reduceAdd, Nat.reduceLeDiff, List.append_nil, and_self, List.all_cons, List.all_nil])
            refine stk_pure (ihk _ _ f5) fun v hv => ?_
            subst hv
            (try simp +decide (implicitDefEqProofs := false) only [go_sem, ↓stk_g, ↓stk_c, ↓reduceIte, hw])
            first | exact ⟨by omega, (), Weak.list _ (Sub.none _) (by (try simp +decide (implicitDefEqProofs := false) only [go_sem, ↓stk_g, ↓stk_c, ↓reduceIte])), trivial⟩ | exact ⟨by omega, (), Weak.list _ (Sub.none _) (by (try simp +decide (implicitDefEqProofs := false) only [go_sem, ↓stk_g, ↓stk_c, ↓reduceIte]))⟩ | exact ⟨by omega, Weak.list _ (Sub.none _) (by (try simp +decide (implicitDefEqProofs := false) only [go_sem, ↓stk_g, ↓stk_c, ↓reduceIte]))⟩ | exact ⟨(), Weak.list _ (Sub.none _) (by (try simp +decide (implicitDefEqProofs := false) only [go_sem, ↓stk_g, ↓stk_c, ↓reduceIte]))⟩
          · have d1 := decide_eq_false (f3 rfl)
            have d1' : decide (nm = (⟨#[108, 105]⟩ : Str)) = false := d1
            by_cases eu : nm = bUl
            · have u1 : decide (nm ≠ (⟨#[117, 108]⟩ : Str)) = false := by simpa [bUl] using eu
              rw [show decide (nm ≠ bUl) = false from u1] at f5
              simp only [Bool.false_and, Bool.and_false, Bool.true_and, Bool.false_or] at f5
              (try simp +decide (implicitDefEqProofs := false) only [go_sem, ↓stk_g, ↓stk_c, ↓reduceIte, d0, d1', lay, oneOr, List.take_succ_cons, List.take_zero, List.drop_succ_cons, List.drop_zero, List.nil_append, List.cons_append, Option.getD_some, Nat.reduceAdd, Nat.reduceLeDiff, List.append_nil, and_self, List.all_cons, List.all_nil, ne_eq, not_true_eq_false])
              refine stk_pure (block_ok nm) fun v hv => ?_
              subst hv
              (try simp +decide (implicitDefEqProofs := false) only [go_sem, ↓stk_g, ↓stk_c, ↓reduceIte, hbl, d1', lay, oneOr, List.take_succ_cons, List.take_zero, List.drop_succ_cons, List.drop_zero, List.nil_append, List.cons_append, Option.getD_some, Nat.reduceAdd, Nat.reduceLeDiff, List.append_nil, and_self, List.all_cons, List.all_nil])
              refine stk_pure (void_ok nm) fun v hv => ?_
              subst hv
              (try simp +decide (implicitDefEqProofs := false) only [go_sem, ↓stk_g, ↓stk_c, ↓reduceIte, hv, hkz, u1, lay, oneOr, List.take_succ_cons, List.take_zero, List.drop_succ_cons, List.drop_zero, List.nil_append, List.cons_append, Option.getD_some, Nat.reduceAdd, Nat.reduceLeDiff, List.append_nil, and_self, List.all_cons, List.all_nil])
              refine stk_pure (ihk _ _ f5) fun v hv => ?_
              subst hv
              (try simp +decide (implicitDefEqProofs := false) only [go_sem, ↓stk_g, ↓stk_c, ↓reduceIte, hw])
              first | exact ⟨by omega, (), Weak.list _ (Sub.none _) (by (try simp +decide (implicitDefEqProofs := false) only [go_sem, ↓stk_g, ↓stk_c, ↓reduceIte])), trivial⟩ | exact ⟨by omega, (), Weak.list _ (Sub.none _) (by (try simp +decide (implicitDefEqProofs := false) only [go_sem, ↓stk_g, ↓stk_c, ↓reduceIte]))⟩ | exact ⟨by omega, Weak.list _ (Sub.none _) (by (try simp +decide (implicitDefEqProofs := false) only [go_sem, ↓stk_g, ↓stk_c, ↓reduceIte]))⟩ | exact ⟨(), Weak.list _ (Sub.none _) (by (try simp +decide (implicitDefEqProofs := false) only [go_sem, ↓stk_g, ↓stk_c, ↓reduceIte]))⟩
            · have u1 : decide (nm ≠ (⟨#[117, 108]⟩ : Str)) = true := by simpa [bUl] using eu
              rw [show decide (nm ≠ bUl) = true from u1] at f5
              by_cases eo : nm = bOl
              · have o1 : decide (nm ≠ (⟨#[111, 108]⟩ : Str)) = false := by simpa [bOl] using eo
                rw [show decide (nm ≠ bOl) = false from o1] at f5
                simp only [Bool.false_and, Bool.and_false, Bool.true_and, Bool.false_or] at f5
                (try simp +decide (implicitDefEqProofs := false) only [go_sem, ↓stk_g, ↓stk_c, ↓reduceIte, d0, d1', lay, oneOr, List.take_succ_cons, List.take_zero, List.drop_succ_cons, List.drop_zero, List.nil_append, List.cons_append, Option.getD_some, Nat.reduceAdd, Nat.reduceLeDiff, List.append_nil, and_self, List.all_cons, List.all_nil, ne_eq, not_true_eq_false])
                refine stk_pure (block_ok nm) fun v hv => ?_
                subst hv
                (try simp +decide (implicitDefEqProofs := false) only [go_sem, ↓stk_g, ↓stk_c, ↓reduceIte, hbl, d1', lay, oneOr, List.take_succ_cons, List.take_zero, List.drop_succ_cons, List.drop_zero, List.nil_append, List.cons_append, Option.getD_some, Nat.reduceAdd, Nat.reduceLeDiff, List.append_nil, and_self, List.all_cons, List.all_nil])
                refine stk_pure (void_ok nm) fun v hv => ?_
                subst hv
                (try simp +decide (implicitDefEqProofs := false) only [go_sem, ↓stk_g, ↓stk_c, ↓reduceIte, hv, hkz, u1, o1, lay, oneOr, List.take_succ_cons, List.take_zero, List.drop_succ_cons, List.drop_zero, List.nil_append, List.cons_append, Option.getD_some, Nat.reduceAdd, Nat.reduceLeDiff, List.append_nil, and_self, List.all_cons, List.all_nil])
                refine stk_pure (ihk _ _ f5) fun v hv => ?_
                subst hv
                (try simp +decide (implicitDefEqProofs := false) only [go_sem, ↓stk_g, ↓stk_c, ↓reduceIte, hw])
                first | exact ⟨by omega, (), Weak.list _ (Sub.none _) (by (try simp +decide (implicitDefEqProofs := false) only [go_sem, ↓stk_g, ↓stk_c, ↓reduceIte])), trivial⟩ | exact ⟨by omega, (), Weak.list _ (Sub.none _) (by (try simp +decide (implicitDefEqProofs := false) only [go_sem, ↓stk_g, ↓stk_c, ↓reduceIte]))⟩ | exact ⟨by omega, Weak.list _ (Sub.none _) (by (try simp +decide (implicitDefEqProofs := false) only [go_sem, ↓stk_g, ↓stk_c, ↓reduceIte]))⟩ | exact ⟨(), Weak.list _ (Sub.none _) (by (try simp +decide (implicitDefEqProofs := false) only [go_sem, ↓stk_g, ↓stk_c, ↓reduceIte]))⟩
              · have o1 : decide (nm ≠ (⟨#[111, 108]⟩ : Str)) = true := by simpa [bOl] using eo
                rw [show decide (nm ≠ bOl) = true from o1] at f5
                simp only [Bool.false_and, Bool.and_false, Bool.true_and, Bool.true_or] at f5
                (try simp +decide (implicitDefEqProofs := false) only [go_sem, ↓stk_g, ↓stk_c, ↓reduceIte, d0, d1', lay, oneOr, List.take_succ_cons, List.take_zero, List.drop_succ_cons, List.drop_zero, List.nil_append, List.cons_append, Option.getD_some, Nat.reduceAdd, Nat.reduceLeDiff, List.append_nil, and_self, List.all_cons, List.all_nil, ne_eq, not_true_eq_false])
                refine stk_pure (block_ok nm) fun v hv => ?_
                subst hv
                (try simp +decide (implicitDefEqProofs := false) only [go_sem, ↓stk_g, ↓stk_c, ↓reduceIte, hbl, d1', lay, oneOr, List.take_succ_cons, List.take_zero, List.drop_succ_cons, List.drop_zero, List.nil_append, List.cons_append, Option.getD_some, Nat.reduceAdd, Nat.reduceLeDiff, List.append_nil, and_self, List.all_cons, List.all_nil])
                refine stk_pure (void_ok nm) fun v hv => ?_
                subst hv
                (try simp +decide (implicitDefEqProofs := false) only [go_sem, ↓stk_g, ↓stk_c, ↓reduceIte, hv, hkz, u1, o1, lay, oneOr, List.take_succ_cons, List.take_zero, List.drop_succ_cons, List.drop_zero, List.nil_append, List.cons_append, Option.getD_some, Nat.reduceAdd, Nat.reduceLeDiff, List.append_nil, and_self, List.all_cons, List.all_nil])
                refine stk_pure (ihk _ _ f5) fun v hv => ?_
                subst hv
                (try simp +decide (implicitDefEqProofs := false) only [go_sem, ↓stk_g, ↓stk_c, ↓reduceIte, hw])
                first | exact ⟨by omega, (), Weak.list _ (Sub.none _) (by (try simp +decide (implicitDefEqProofs := false) only [go_sem, ↓stk_g, ↓stk_c, ↓reduceIte])), trivial⟩ | exact ⟨by omega, (), Weak.list _ (Sub.none _) (by (try simp +decide (implicitDefEqProofs := false) only [go_sem, ↓stk_g, ↓stk_c, ↓reduceIte]))⟩ | exact ⟨by omega, Weak.list _ (Sub.none _) (by (try simp +decide (implicitDefEqProofs := false) only [go_sem, ↓stk_g, ↓stk_c, ↓reduceIte]))⟩ | exact ⟨(), Weak.list _ (Sub.none _) (by (try simp +decide (implicitDefEqProofs := false) only [go_sem, ↓stk_g, ↓stk_c, ↓reduceIte]))⟩
  · have g1 : ¬ (k : Int) < (l.length : Int) := by omega
    (try simp +decide (implicitDefEqProofs := false) only [go_sem, ↓stk_g, ↓stk_c, ↓reduceIte, g1, hlm])
    refine aret_pure (.inr rfl) ?_; simp +decide only [retOf, tget, if_true, if_false, ↓reduceIte, List.map_cons, List.map_nil]
theorem fine_ok {W : World} : ∀ (n : Nat) (l : List Node), nCount l < n → n ≤ 1000000000 → ∀ (p li : Bool), FineL p li false l → ACalls Try.prog W 26 [.sl false 4 (l.map nodeRow), .v (.bool p), .v (.bool li)] AHeap.none fun v _ => v = .v (.bool true)
  | 0, l, hl, _, p, li, _ => by omega
  | n + 1, l, hl, hn, p, li, hf => fine_step n (by omega) (fun l h p li hf => fine_ok n l h (by omega) p li hf) l hl p li hf
end Go.Proofs.Ytidicfdcjoggpaa.M
