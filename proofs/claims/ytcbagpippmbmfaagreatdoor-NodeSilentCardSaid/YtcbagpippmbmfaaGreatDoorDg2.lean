/-
  Layer 16: a list's copy; a text put into its place in a list that rises; what the document says a list lacks, and what two join to.
-/
import Derived.Test.YtcbagpippmbmfaaGreatDoorDg1
import Derived.Test.YtcbagpippmbmfaaGreatDoorMS
namespace Go.Proofs.YtcbagpippmbmfaaGreatDoor.M
open Go.RowKit
attribute [local go_sem] stk_nil stk_skip stk_ops stk_seq stk_block stk_scope stk_exit stk_ret stk_code_exit stk_code_ret stk_ops_exit stk_ops_ret stk_endb stk_endb_exit stk_endb_ret stk_endl stk_endl_exit stk_endl_ret stk_ops_nil stk_q stk_niq niqA flip srcOf stk_bsl side val bside bval uside uval cside cval bndS bndV intA isInt lside lval fside fval faside faval iside ival sxside sxval sizeA slside slval llside llval lenside lenval lenA tupA mmside mmval nkside boolA isBool ev_t ev_c tget put_s put_n lkside lkval menval stk_mk Option.isSome_some isMapA mapA keyA FZ_rfl FZ_any retOf true_and and_true if_true if_false decide_true decide_false Bool.not_true Bool.not_false Nat.zero_add List.map_cons List.map_nil Int.toNat_natCast strRows_len intRows_len List.getD_cons_zero List.getD_cons_succ List.length_cons List.length_nil List.forall_mem_cons List.not_mem_nil false_implies implies_true Int.ofNat_zero Int.natCast_add Int.natCast_one Int.ofNat_one Int.natCast_zero isB isU Bool.false_eq_true beq_self_eq_true Bool.false_beq Bool.true_beq Int.natCast_nonneg undef strRows_take strRows_drop Int.toNat_zero List.drop_zero Bool.and_true oneOr List.all_cons List.all_nil AVal.one Value.oneCell' Bool.true_and List.take_length stk_st' stside stH hp_self hp_hp isnside isnval
set_option linter.unusedVariables false
set_option linter.unusedSimpArgs false
def c_Clone : AFn := ⟨1, 8, [2],
  .seq (.ops [⟨(some 2), none, .q (.mv (.const (.slice none 0 0)))⟩])
  (.seq (.seq (.ops [⟨(some 3), none, .q (.mv (.tmp 0))⟩,
      ⟨(some 4), none, .e (.niq false (.tmp 3))⟩])
  (.cond (.tmp 4)
    (.seq (.ops [⟨(some 2), none, .q (.mv (.const (.slice none 0 0)))⟩])
    (.ret))
    (.skip)))
  (.seq (.ops [⟨(some 5), none, .e (.bsl 9 1 [])⟩,
      ⟨(some 6), none, .q (.mv (.tmp 0))⟩,
      ⟨(some 7), none, .e (.app 9 1 16 false (.tmp 5) (.tmp 6))⟩,
      ⟨(some 2), none, .q (.mv (.tmp 7))⟩])
  (.ret))), []⟩
theorem k_Clone : compF Tryz.prog 91 = some c_Clone := by kernel_rfl
theorem clone_ok {W : World} (f : Bool) (l : List Str) (hl : l.length ≤ 1000000) : ACalls Tryz.prog W 91 [.sl f 1 (strRows l)] AHeap.none (fun r _ => r = .sl false 1 (strRows l)) := by
  refine fn_run follows k_Clone rfl ?_
  simp only [c_Clone, aretC_nil, List.zipIdx_cons, List.zipIdx_nil, List.map_cons, List.map_nil, Nat.zero_add]
  (try simp +decide (implicitDefEqProofs := false) only [go_sem, ↓stk_g, ↓stk_c, ↓reduceIte])
  intro t ht
  cases t
  · (try simp +decide (implicitDefEqProofs := false) only [go_sem, ↓stk_g, ↓stk_c, ↓reduceIte, Bool.false_eq_true, false_implies])
    refine stk_app (rows := []) (by exact Row.sl _) (by rfl) (by rw [strRows_len]; simp; omega) fun x' H' hr _ => ?_
    (try simp +decide (implicitDefEqProofs := false) only [go_sem, ↓stk_g, ↓stk_c, ↓reduceIte])
    refine aret_row (E := 9) (rows := strRows l) (.inr rfl) ?_ (strGood l) rfl
    simpa +decide only [retOf, tget, if_true, if_false, ↓reduceIte, List.nil_append] using hr
  · have e : l = [] := by simpa [strRows] using ht rfl
    subst e
    (try simp +decide (implicitDefEqProofs := false) only [go_sem, ↓stk_g, ↓stk_c, ↓reduceIte])
    exact aret_row (E := 9) (rows := strRows []) (.inr rfl) (by simp +decide only [retOf, tget, if_true, if_false, ↓reduceIte]; exact Row.nil) (strGood []) rfl
/-- A text's place. -/
def placeS : List Str → Str → Nat
  | [], _ => 0
  | y :: l, x => if Lt y x then placeS l x + 1 else 0
def putS (l : List Str) (x : Str) : List Str := if l.getD (placeS l x) ByteArray.empty = x ∧ placeS l x < l.length then l else l.take (placeS l x) ++ [x] ++ l.drop (placeS l x)
theorem place_le : ∀ (l : List Str) (x : Str), placeS l x ≤ l.length
  | [], _ => Nat.le_refl _
  | y :: l, x => by unfold placeS; split; · simp [place_le l x]
                    · simp
theorem place_lt : ∀ (l : List Str) (x : Str) (i : Nat), i < placeS l x → Lt (l.getD i ByteArray.empty) x
  | [], _, i, h => by simp [placeS] at h
  | y :: l, x, i, h => by
    unfold placeS at h
    split at h
    · rename_i hy
      cases i with
      | zero => exact hy
      | succ i => simpa using place_lt l x i (by omega)
    · omega
theorem place_not : ∀ (l : List Str) (x : Str), placeS l x < l.length → ¬ Lt (l.getD (placeS l x) ByteArray.empty) x
  | [], _, h => by simp at h
  | y :: l, x, h => by
    unfold placeS at h ⊢
    split
    · rename_i hy
      rw [if_pos hy] at h
      simp only [List.length_cons] at h
      simpa using place_not l x (by omega)
    · rename_i hy; simpa using hy
theorem place_at {l : List Str} {x : Str} {i : Nat} (hi : i ≤ l.length) (h1 : ∀ j, j < i → Lt (l.getD j ByteArray.empty) x) (h2 : i < l.length → ¬ Lt (l.getD i ByteArray.empty) x) : placeS l x = i := by
  rcases Nat.lt_trichotomy (placeS l x) i with h | h | h
  · exact absurd (h1 _ h) (place_not l x (by omega))
  · exact h
  · have := place_le l x
    exact absurd (place_lt l x i h) (h2 (by omega))
def c_put : AFn := ⟨2, 45, [4],
  .seq (.ops [⟨(some 4), none, .q (.mv (.const (.slice none 0 0)))⟩])
  (.seq (.ops [⟨(some 5), none, .q (.mv (.const (.int .i64 0)))⟩])
  (.seq (.block 0 (.loop (.seq (.seq (.ops [⟨(some 6), none, .q (.mv (.tmp 5))⟩,
          ⟨(some 7), none, .q (.mv (.tmp 0))⟩,
          ⟨(some 8), none, .q (.len false (.tmp 7))⟩,
          ⟨(some 9), none, .q (.bin .lss .num (.tmp 6) (.tmp 8))⟩,
          ⟨(some 10), none, .q (.mv (.tmp 9))⟩,
          ⟨(some 11), (some (10, true)), .q (.mv (.tmp 0))⟩,
          ⟨(some 12), (some (10, true)), .q (.mv (.tmp 5))⟩,
          ⟨(some 13), (some (10, true)), .q (.ixa 1 (.tmp 11) (.tmp 12))⟩,
          ⟨(some 14), (some (10, true)), .q (.ld false 1 (.tmp 13))⟩,
          ⟨(some 15), (some (10, true)), .q (.mv (.tmp 1))⟩,
          ⟨(some 16), (some (10, true)), .q (.bin .lss .num (.tmp 14) (.tmp 15))⟩,
          ⟨(some 17), none, .q (.pick (.tmp 10) (.tmp 16) (.const (.bool false)))⟩])
      (.cond (.tmp 17)
        (.skip)
        (.exit 0)))
      (.block 1 (.ops [⟨(some 18), none, .q (.mv (.tmp 5))⟩,
            ⟨(some 19), none, .q (.bin .add .num (.tmp 18) (.const (.int .i64 1)))⟩,
            ⟨(some 5), none, .q (.mv (.tmp 19))⟩])))))
  (.seq (.seq (.ops [⟨(some 20), none, .q (.mv (.tmp 5))⟩,
      ⟨(some 21), none, .q (.mv (.tmp 0))⟩,
      ⟨(some 22), none, .q (.len false (.tmp 21))⟩,
      ⟨(some 23), none, .q (.bin .lss .num (.tmp 20) (.tmp 22))⟩,
      ⟨(some 24), none, .q (.mv (.tmp 23))⟩,
      ⟨(some 25), (some (24, true)), .q (.mv (.tmp 0))⟩,
      ⟨(some 26), (some (24, true)), .q (.mv (.tmp 5))⟩,
      ⟨(some 27), (some (24, true)), .q (.ixa 1 (.tmp 25) (.tmp 26))⟩,
      ⟨(some 28), (some (24, true)), .q (.ld false 1 (.tmp 27))⟩,
      ⟨(some 29), (some (24, true)), .q (.mv (.tmp 1))⟩,
      ⟨(some 30), (some (24, true)), .q (.bin .eql .num (.tmp 28) (.tmp 29))⟩,
      ⟨(some 31), none, .q (.pick (.tmp 24) (.tmp 30) (.const (.bool false)))⟩])
  (.cond (.tmp 31)
    (.seq (.ops [⟨(some 32), none, .q (.mv (.tmp 0))⟩,
        ⟨(some 4), none, .q (.mv (.tmp 32))⟩])
    (.ret))
    (.skip)))
  (.seq (.seq (.ops [⟨(some 34), none, .q (.mv (.tmp 0))⟩,
      ⟨(some 35), none, .q (.mv (.tmp 5))⟩,
      ⟨(some 36), none, .q (.lsl 1 (.tmp 34) none (some (.tmp 35)) none)⟩,
      ⟨(some 38), none, .q (.mv (.tmp 1))⟩,
      ⟨(some 41), none, .q (.mv (.tmp 0))⟩,
      ⟨(some 42), none, .q (.mv (.tmp 5))⟩,
      ⟨(some 43), none, .q (.lsl 1 (.tmp 41) (some (.tmp 42)) none none)⟩])
  (.both (.seq (.ops [⟨(some 33), none, .e (.bsl 9 1 [])⟩])
    (.both (.ops [⟨(some 37), none, .e (.app 9 1 16 false (.tmp 33) (.tmp 36))⟩,
          ⟨(some 39), none, .e (.bsl 9 1 [(.tmp 38)])⟩,
          ⟨(some 40), none, .e (.app 9 1 16 false (.tmp 37) (.tmp 39))⟩,
          ⟨(some 44), none, .e (.app 9 1 16 false (.tmp 40) (.tmp 43))⟩,
          ⟨(some 4), none, .q (.mv (.tmp 44))⟩])
    (.ops [⟨(some 39), none, .e (.bsl 9 1 [(.tmp 38)])⟩,
          ⟨(some 37), none, .e (.app 9 1 16 false (.tmp 33) (.tmp 36))⟩,
          ⟨(some 40), none, .e (.app 9 1 16 false (.tmp 37) (.tmp 39))⟩,
          ⟨(some 44), none, .e (.app 9 1 16 false (.tmp 40) (.tmp 43))⟩,
          ⟨(some 4), none, .q (.mv (.tmp 44))⟩])))
  (.ops [⟨(some 39), none, .e (.bsl 9 1 [(.tmp 38)])⟩,
        ⟨(some 33), none, .e (.bsl 9 1 [])⟩,
        ⟨(some 37), none, .e (.app 9 1 16 false (.tmp 33) (.tmp 36))⟩,
        ⟨(some 40), none, .e (.app 9 1 16 false (.tmp 37) (.tmp 39))⟩,
        ⟨(some 44), none, .e (.app 9 1 16 false (.tmp 40) (.tmp 43))⟩,
        ⟨(some 4), none, .q (.mv (.tmp 44))⟩])))
  (.ret))))), []⟩
theorem k_put : compF Tryz.prog 172 = some c_put := by kernel_rfl
set_option maxHeartbeats 2000000 in
theorem put_ok {W : World} (f : Bool) (l : List Str) (x : Str) (hl : l.length ≤ 1000000) : ACalls Tryz.prog W 172 [.sl f 1 (strRows l), .v (.string x)] AHeap.none (fun r _ => r = .sl false 1 (strRows (putS l x))) := by
  refine fn_run follows k_put rfl ?_
  simp only [c_put, aretC_nil, List.zipIdx_cons, List.zipIdx_nil, List.map_cons, List.map_nil, Nat.zero_add]
  (try simp +decide (implicitDefEqProofs := false) only [go_sem, ↓stk_g, ↓stk_c, ↓reduceIte])
  refine stk_up (α := Unit) l.length (fun i _ => ⟨[(5, .v (.int .i64 i)), (0, .sl f 1 (strRows l)), (1, .v (.string x))], AHeap.none⟩) (fun i _ => ∀ j, j < i → Lt (l.getD j ByteArray.empty) x) () (Weak.list _ (Sub.refl _) (by (try simp +decide (implicitDefEqProofs := false) only [go_sem, ↓stk_g, ↓stk_c, ↓reduceIte]))) (fun j hj => by omega) ?_
  rintro i _ hi hall
  by_cases hl : i < l.length
  · have h1 : (i : Int) < (l.length : Int) := by omega
    have hg := strRows_get hl
    have hw := wrap_in (n := i + 1) (by omega) (by omega)
    by_cases he : Lt (l.getD i ByteArray.empty) x
    · have hs := (strLt_eq _ _).2 he
      (try simp +decide (implicitDefEqProofs := false) only [go_sem, ↓stk_g, ↓stk_c, ↓reduceIte, h1, hs, hg, hw])
      refine ⟨by omega, (), Weak.list _ (Sub.refl _) (by (try simp +decide (implicitDefEqProofs := false) only [go_sem, ↓stk_g, ↓stk_c, ↓reduceIte])), ?_⟩
      intro j hj
      by_cases e : j = i
      · rw [e]; exact he
      · exact hall j (by omega)
    · have hs : strLt (l.getD i ByteArray.empty) x = false := by
        cases h : strLt (l.getD i ByteArray.empty) x
        · rfl
        · exact absurd ((strLt_eq _ _).1 h) he
      have hp : placeS l x = i := place_at (by omega) hall fun _ => he
      by_cases hx : l.getD i ByteArray.empty = x
      · have hx' : decide (l.getD i ByteArray.empty = x) = true := decide_eq_true hx
        (try simp +decide (implicitDefEqProofs := false) only [go_sem, ↓stk_g, ↓stk_c, ↓reduceIte, h1, hs, hg, hw, hx'])
        refine aret_loose (f := f) (sz := 1) (rows := strRows l) (.inr rfl) ?_ ?_
        · simp +decide only [retOf, tget, if_true, if_false, ↓reduceIte]
        rw [putS, hp, if_pos ⟨hx, hl⟩]
      · (try simp +decide (implicitDefEqProofs := false) only [go_sem, ↓stk_g, ↓stk_c, ↓reduceIte, h1, hs, hg, hw, hx])
        refine ⟨by omega, ⟨by omega, by omega⟩, ?_⟩
        refine stk_both ?_ ?_ <;> (try simp +decide (implicitDefEqProofs := false) only [go_sem, ↓stk_g, ↓stk_c, ↓reduceIte])
        refine stk_both ?_ ?_ <;> (try simp +decide (implicitDefEqProofs := false) only [go_sem, ↓stk_g, ↓stk_c, ↓reduceIte])
        all_goals
          repeat (refine stk_app (by first | assumption | exact Row.sl _ | exact Row.nil) (by rfl) (by (try simp only [List.length_append, strRows_len, List.length_cons, List.length_nil, List.length_take, List.length_drop]); omega) fun x_ H_ hr_ _ => ?_; (try simp +decide (implicitDefEqProofs := false) only [go_sem, ↓stk_g, ↓stk_c, ↓reduceIte]))
          refine aret_row (E := 9) (rows := strRows (putS l x)) (.inr rfl) ?_ (strGood _) rfl
          simp +decide only [retOf, tget, if_true, if_false, ↓reduceIte]
          rw [putS, hp, if_neg (fun h => hx h.1)]
          simpa only [List.nil_append, strRows_append, strRows_one] using hr_
  · have h1 : ¬ (i : Int) < (l.length : Int) := by omega
    have hp : placeS l x = i := place_at (by omega) hall fun h => absurd h hl
    (try simp +decide (implicitDefEqProofs := false) only [go_sem, ↓stk_g, ↓stk_c, ↓reduceIte, h1])
    refine ⟨by omega, ⟨by omega, by omega⟩, ?_⟩
    refine stk_both ?_ ?_ <;> (try simp +decide (implicitDefEqProofs := false) only [go_sem, ↓stk_g, ↓stk_c, ↓reduceIte])
    refine stk_both ?_ ?_ <;> (try simp +decide (implicitDefEqProofs := false) only [go_sem, ↓stk_g, ↓stk_c, ↓reduceIte])
    all_goals
      repeat (refine stk_app (by first | assumption | exact Row.sl _ | exact Row.nil) (by rfl) (by (try simp only [List.length_append, strRows_len, List.length_cons, List.length_nil, List.length_take, List.length_drop]); omega) fun x_ H_ hr_ _ => ?_; (try simp +decide (implicitDefEqProofs := false) only [go_sem, ↓stk_g, ↓stk_c, ↓reduceIte]))
      refine aret_row (E := 9) (rows := strRows (putS l x)) (.inr rfl) ?_ (strGood _) rfl
      simp +decide only [retOf, tget, if_true, if_false, ↓reduceIte]
      rw [putS, hp, if_neg (fun h => hl h.2)]
      simpa only [List.nil_append, strRows_append, strRows_one] using hr_
def c_rLacks : AFn := ⟨2, 27, [4],
  .seq (.ops [⟨(some 4), none, .q (.mv (.const (.slice none 0 0)))⟩])
  (.seq (.ops [⟨(some 5), none, .q (.mv (.const (.slice none 0 0)))⟩])
  (.seq (.seq (.ops [⟨(some 6), none, .q (.mv (.const (.int .i64 0)))⟩])
  (.block 0 (.loop (.seq (.seq (.ops [⟨(some 7), none, .q (.mv (.tmp 6))⟩,
          ⟨(some 8), none, .q (.mv (.tmp 1))⟩,
          ⟨(some 9), none, .q (.len false (.tmp 8))⟩,
          ⟨(some 10), none, .q (.bin .lss .num (.tmp 7) (.tmp 9))⟩])
      (.cond (.tmp 10)
        (.skip)
        (.exit 0)))
      (.seq (.block 1 (.seq (.ops [⟨(some 13), none, .q (.mv (.tmp 0))⟩,
            ⟨(some 14), none, .q (.mv (.tmp 1))⟩,
            ⟨(some 15), none, .q (.mv (.tmp 6))⟩,
            ⟨(some 16), none, .q (.ixa 1 (.tmp 14) (.tmp 15))⟩,
            ⟨(some 17), none, .q (.ld false 1 (.tmp 16))⟩,
            ⟨(some 18), none, .e (.call 171 [(.tmp 13), (.tmp 17)])⟩,
            ⟨(some 19), none, .q (.un .not (.tmp 18))⟩])
        (.cond (.tmp 19)
          (.ops [⟨(some 20), none, .q (.mv (.tmp 5))⟩,
              ⟨(some 21), none, .q (.mv (.tmp 1))⟩,
              ⟨(some 22), none, .q (.mv (.tmp 6))⟩,
              ⟨(some 23), none, .q (.ixa 1 (.tmp 21) (.tmp 22))⟩,
              ⟨(some 24), none, .q (.ld false 1 (.tmp 23))⟩,
              ⟨(some 25), none, .e (.call 172 [(.tmp 20), (.tmp 24)])⟩,
              ⟨(some 5), none, .q (.mv (.tmp 25))⟩])
          (.skip))))
      (.ops [⟨(some 11), none, .q (.mv (.tmp 6))⟩,
          ⟨(some 12), none, .q (.bin .add .num (.tmp 11) (.const (.int .i64 1)))⟩,
          ⟨(some 6), none, .q (.mv (.tmp 12))⟩]))))))
  (.seq (.ops [⟨(some 26), none, .q (.mv (.tmp 5))⟩,
      ⟨(some 4), none, .q (.mv (.tmp 26))⟩])
  (.ret)))), []⟩
theorem k_rLacks : compF Tryz.prog 113 = some c_rLacks := by kernel_rfl
def lacksS (has other : List Str) : List Str := other.foldl (fun out x => if x ∈ has then out else putS out x) []
theorem putS_len (l : List Str) (x : Str) : (putS l x).length ≤ l.length + 1 := by
  unfold putS
  split
  · omega
  · have := place_le l x
    simp; omega
theorem foldl_take_succ {α β : Type} (f : α → β → α) (a : α) (l : List β) (i : Nat) (d : β) (h : i < l.length) : (l.take (i + 1)).foldl f a = f ((l.take i).foldl f a) (l.getD i d) := by
  rw [List.take_succ_eq_append_getElem h, List.foldl_append]; simp [h]
theorem lacks_len (has : List Str) (l : List Str) : (lacksS has l).length ≤ l.length := by
  have key : ∀ (l : List Str) (a : List Str), (l.foldl (fun out x => if x ∈ has then out else putS out x) a).length ≤ a.length + l.length := by
    intro l
    induction l with
    | nil => intro a; simp
    | cons x l ih =>
      intro a
      simp only [List.foldl_cons, List.length_cons]
      have := ih (if x ∈ has then a else putS a x)
      have h2 := putS_len a x
      split at this <;> rename_i h <;> simp only [h, if_true, if_false] <;> omega
  simpa [lacksS] using key l []
theorem rlacks_ok {W : World} (f g : Bool) (a b : List Str) (ha : a.length ≤ 1000000) (hb : b.length ≤ 1000000) : ACalls Tryz.prog W 113 [.sl f 1 (strRows a), .sl g 1 (strRows b)] AHeap.none (fun r _ => r = .sl false 1 (strRows (lacksS a b))) := by
  refine fn_run follows k_rLacks rfl ?_
  simp only [c_rLacks, aretC_nil, List.zipIdx_cons, List.zipIdx_nil, List.map_cons, List.map_nil, Nat.zero_add]
  (try simp +decide (implicitDefEqProofs := false) only [go_sem, ↓stk_g, ↓stk_c, ↓reduceIte])
  refine stk_up (α := Unit) b.length (fun i _ => ⟨[(6, .v (.int .i64 i)), (5, .sl false 1 (strRows (lacksS a (b.take i)))), (0, .sl f 1 (strRows a)), (1, .sl g 1 (strRows b))], AHeap.none⟩) (fun i _ => True) () (Weak.list _ (Sub.refl _) ?_) trivial ?_
  · (try simp +decide (implicitDefEqProofs := false) only [go_sem, ↓stk_g, ↓stk_c, ↓reduceIte, List.take_zero])
    exact .nil 1
  rintro i _ hi -
  have hlen := lacks_len a (b.take i)
  have hlen2 : (b.take i).length ≤ b.length := by simp; omega
  by_cases hl : i < b.length
  · have h1 : (i : Int) < (b.length : Int) := by omega
    have hg := strRows_get hl
    have hw := wrap_in (n := i + 1) (by omega) (by omega)
    have hstep : lacksS a (b.take (i + 1)) = if b.getD i ByteArray.empty ∈ a then lacksS a (b.take i) else putS (lacksS a (b.take i)) (b.getD i ByteArray.empty) := foldl_take_succ _ _ _ _ _ hl
    (try simp +decide (implicitDefEqProofs := false) only [go_sem, ↓stk_g, ↓stk_c, ↓reduceIte, h1, hg, hw])
    refine stk_pure (has_ok f a _ (by unfold maxLen; omega)) fun v hv => ?_
    subst hv
    by_cases hm : b.getD i ByteArray.empty ∈ a
    · (try simp +decide (implicitDefEqProofs := false) only [go_sem, ↓stk_g, ↓stk_c, ↓reduceIte, h1, hg, hw, hm, hstep])
      refine ⟨by omega, (), Weak.list _ (Sub.refl _) (by (try simp +decide (implicitDefEqProofs := false) only [go_sem, ↓stk_g, ↓stk_c, ↓reduceIte]))⟩
    · (try simp +decide (implicitDefEqProofs := false) only [go_sem, ↓stk_g, ↓stk_c, ↓reduceIte, h1, hg, hw, hm, hstep])
      refine stk_pure (put_ok false _ _ (by omega)) fun v hv => ?_
      subst hv
      (try simp +decide (implicitDefEqProofs := false) only [go_sem, ↓stk_g, ↓stk_c, ↓reduceIte, hw])
      refine ⟨by omega, (), Weak.list _ (Sub.refl _) (by (try simp +decide (implicitDefEqProofs := false) only [go_sem, ↓stk_g, ↓stk_c, ↓reduceIte]))⟩
  · have h1 : ¬ (i : Int) < (b.length : Int) := by omega
    have hib : b.take i = b := by rw [List.take_of_length_le (by omega)]
    (try simp +decide (implicitDefEqProofs := false) only [go_sem, ↓stk_g, ↓stk_c, ↓reduceIte, h1, hib])
    refine aret_loose (f := false) (sz := 1) (rows := strRows (lacksS a b)) (.inr rfl) ?_ rfl
    simp +decide only [retOf, tget, if_true, if_false, ↓reduceIte]
def joinS (a b : List Str) : List Str := b.foldl putS (a.foldl putS [])
theorem fold_len (l : List Str) : ∀ a : List Str, (l.foldl putS a).length ≤ a.length + l.length := by
  induction l with
  | nil => intro a; simp
  | cons x l ih =>
    intro a
    have := ih (putS a x)
    have h2 := putS_len a x
    simp only [List.foldl_cons, List.length_cons]
    omega
end Go.Proofs.YtcbagpippmbmfaaGreatDoor.M
