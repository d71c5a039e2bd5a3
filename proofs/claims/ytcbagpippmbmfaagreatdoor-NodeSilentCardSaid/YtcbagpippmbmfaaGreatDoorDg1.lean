/-
  Layer 16: the document's answer: what a list has, when two are the same, how much a list weighs.
-/
import Derived.Test.YtcbagpippmbmfaaGreatDoorMT
import Derived.Test.YtcbagpippmbmfaaGreatDoorProg
import Derived.KernelRfl
namespace Go.Proofs.YtcbagpippmbmfaaGreatDoor.M
open Go.RowKit
attribute [local go_sem] stk_nil stk_skip stk_ops stk_seq stk_block stk_scope stk_exit stk_ret stk_code_exit stk_code_ret stk_ops_exit stk_ops_ret stk_endb stk_endb_exit stk_endb_ret stk_endl stk_endl_exit stk_endl_ret stk_ops_nil stk_q stk_niq niqA flip srcOf stk_bsl side val bside bval uside uval cside cval bndS bndV intA isInt lside lval fside fval faside faval iside ival sxside sxval sizeA slside slval llside llval lenside lenval lenA tupA mmside mmval nkside boolA isBool ev_t ev_c tget put_s put_n lkside lkval menval stk_mk Option.isSome_some isMapA mapA keyA FZ_rfl FZ_any retOf true_and and_true if_true if_false decide_true decide_false Bool.not_true Bool.not_false Nat.zero_add List.map_cons List.map_nil Int.toNat_natCast strRows_len intRows_len List.getD_cons_zero List.getD_cons_succ List.length_cons List.length_nil List.forall_mem_cons List.not_mem_nil false_implies implies_true Int.ofNat_zero Int.natCast_add Int.natCast_one Int.ofNat_one Int.natCast_zero isB isU Bool.false_eq_true beq_self_eq_true Bool.false_beq Bool.true_beq Int.natCast_nonneg undef strRows_take strRows_drop Int.toNat_zero List.drop_zero Bool.and_true oneOr List.all_cons List.all_nil AVal.one Value.oneCell' Bool.true_and List.take_length stk_st' stside stH hp_self hp_hp isnside isnval
set_option linter.unusedVariables false
set_option linter.unusedSimpArgs false
theorem follows : Tryz.prog.follows .mixedOrders = true := by kernel_rfl
theorem mem_iff_getD {l : List Str} {x : Str} : x ∈ l ↔ ∃ i, i < l.length ∧ l.getD i ByteArray.empty = x := by
  rw [List.mem_iff_getElem]
  constructor
  · rintro ⟨i, hi, rfl⟩; exact ⟨i, hi, by simp [hi]⟩
  · rintro ⟨i, hi, rfl⟩; exact ⟨i, hi, by simp [hi]⟩
def c_Has : AFn := ⟨2, 18, [4],
  .seq (.ops [⟨(some 4), none, .q (.mv (.const (.bool false)))⟩])
  (.seq (.seq (.ops [⟨(some 5), none, .q (.mv (.const (.int .i64 0)))⟩])
  (.block 0 (.loop (.seq (.seq (.ops [⟨(some 6), none, .q (.mv (.tmp 5))⟩,
          ⟨(some 7), none, .q (.mv (.tmp 0))⟩,
          ⟨(some 8), none, .q (.len false (.tmp 7))⟩,
          ⟨(some 9), none, .q (.bin .lss .num (.tmp 6) (.tmp 8))⟩])
      (.cond (.tmp 9)
        (.skip)
        (.exit 0)))
      (.seq (.block 1 (.seq (.ops [⟨(some 12), none, .q (.mv (.tmp 0))⟩,
            ⟨(some 13), none, .q (.mv (.tmp 5))⟩,
            ⟨(some 14), none, .q (.ixa 1 (.tmp 12) (.tmp 13))⟩,
            ⟨(some 15), none, .q (.ld false 1 (.tmp 14))⟩,
            ⟨(some 16), none, .q (.mv (.tmp 1))⟩,
            ⟨(some 17), none, .q (.bin .eql .num (.tmp 15) (.tmp 16))⟩])
        (.cond (.tmp 17)
          (.seq (.ops [⟨(some 4), none, .q (.mv (.const (.bool true)))⟩])
          (.ret))
          (.skip))))
      (.ops [⟨(some 10), none, .q (.mv (.tmp 5))⟩,
          ⟨(some 11), none, .q (.bin .add .num (.tmp 10) (.const (.int .i64 1)))⟩,
          ⟨(some 5), none, .q (.mv (.tmp 11))⟩]))))))
  (.seq (.ops [⟨(some 4), none, .q (.mv (.const (.bool false)))⟩])
  (.ret))), []⟩
theorem k_Has : compF Tryz.prog 171 = some c_Has := by kernel_rfl
theorem has_ok {W : World} (f : Bool) (l : List Str) (x : Str) (hl : l.length ≤ maxLen) : ACalls Tryz.prog W 171 [.sl f 1 (strRows l), .v (.string x)] AHeap.none (fun r _ => r = .v (.bool (decide (x ∈ l)))) := by
  unfold maxLen at hl
  refine fn_run follows k_Has rfl ?_
  simp only [c_Has, aretC_nil, List.zipIdx_cons, List.zipIdx_nil, List.map_cons, List.map_nil, Nat.zero_add]
  (try simp +decide (implicitDefEqProofs := false) only [go_sem, ↓stk_g, ↓stk_c, ↓reduceIte])
  refine stk_up (α := Unit) l.length (fun i _ => ⟨[(5, .v (.int .i64 i)), (0, .sl f 1 (strRows l)), (1, .v (.string x))], AHeap.none⟩) (fun i _ => ∀ j, j < i → l.getD j ByteArray.empty ≠ x) () (Weak.list _ (Sub.refl _) (by (try simp +decide (implicitDefEqProofs := false) only [go_sem, ↓stk_g, ↓stk_c, ↓reduceIte]))) (fun j hj => by omega) ?_
  rintro i _ hi hno
  by_cases hl : i < l.length
  · have h1 : (i : Int) < (l.length : Int) := by omega
    have hg := strRows_get hl
    have hw := wrap_in (n := i + 1) (by omega) (by omega)
    by_cases he : l.getD i ByteArray.empty = x
    · (try simp +decide (implicitDefEqProofs := false) only [go_sem, ↓stk_g, ↓stk_c, ↓reduceIte, h1, he, hg, hw])
      refine aret_pure (.inr rfl) ?_; simp +decide only [retOf, tget, if_true, if_false, ↓reduceIte, List.map_cons, List.map_nil]
      rw [decide_eq_true (mem_iff_getD.2 ⟨i, hl, he⟩)]
    · (try simp +decide (implicitDefEqProofs := false) only [go_sem, ↓stk_g, ↓stk_c, ↓reduceIte, h1, he, hg, hw])
      refine ⟨by omega, (), Weak.list _ (Sub.refl _) (by (try simp +decide (implicitDefEqProofs := false) only [go_sem, ↓stk_g, ↓stk_c, ↓reduceIte])), ?_⟩
      intro j hj
      by_cases e : j = i
      · rw [e]; exact he
      · exact hno j (by omega)
  · have h1 : ¬ (i : Int) < (l.length : Int) := by omega
    (try simp +decide (implicitDefEqProofs := false) only [go_sem, ↓stk_g, ↓stk_c, ↓reduceIte, h1])
    refine aret_pure (.inr rfl) ?_; simp +decide only [retOf, tget, if_true, if_false, ↓reduceIte, List.map_cons, List.map_nil]
    rw [decide_eq_false]
    intro hm
    obtain ⟨j, hj, e⟩ := mem_iff_getD.1 hm
    exact hno j (by omega) e
theorem eq_of_getD {a b : List Str} (hl : a.length = b.length) (h : ∀ j, j < a.length → a.getD j ByteArray.empty = b.getD j ByteArray.empty) : a = b := by
  apply List.ext_getElem hl
  intro i h1 h2
  have := h i h1
  simpa [h1, h2] using this
def sizeAt (l : List Int) (i : Nat) : Int := if i < l.length then max (l.getD i 0) 0 else 0
end Go.Proofs.YtcbagpippmbmfaaGreatDoor.M
