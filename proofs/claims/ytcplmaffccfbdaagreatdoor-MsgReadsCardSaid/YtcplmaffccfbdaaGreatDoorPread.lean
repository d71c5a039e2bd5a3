/-
  The policy of a text: walked.
-/
import Derived.Test.YtcplmaffccfbdaaGreatDoorPtaken
import Derived.Test.YtcplmaffccfbdaaGreatDoorPf
namespace Go.Proofs.YtcplmaffccfbdaaGreatDoor.M
open Go.RowKit
attribute [local go_sem] stk_nil stk_skip stk_ops stk_seq stk_block stk_scope stk_exit stk_ret stk_code_exit stk_code_ret stk_ops_exit stk_ops_ret stk_endb stk_endb_exit stk_endb_ret stk_endl stk_endl_exit stk_endl_ret stk_ops_nil stk_q stk_niq niqA flip srcOf stk_bsl side val bside bval uside uval cside cval bndS bndV intA isInt lside lval fside fval faside faval iside ival sxside sxval sizeA slside slval llside llval lenside lenval lenA tupA mmside mmval nkside boolA isBool ev_t ev_c tget put_s put_n lkside lkval menval stk_mk Option.isSome_some isMapA mapA keyA FZ_rfl FZ_any retOf true_and and_true if_true if_false decide_true decide_false Bool.not_true Bool.not_false Nat.zero_add List.map_cons List.map_nil Int.toNat_natCast strRows_len intRows_len List.getD_cons_zero List.getD_cons_succ List.length_cons List.length_nil List.forall_mem_cons List.not_mem_nil false_implies implies_true Int.ofNat_zero Int.natCast_add Int.natCast_one Int.ofNat_one Int.natCast_zero isB isU Bool.false_eq_true beq_self_eq_true Bool.false_beq Bool.true_beq Int.natCast_nonneg undef strRows_take strRows_drop Int.toNat_zero List.drop_zero Bool.and_true oneOr List.all_cons List.all_nil AVal.one Value.oneCell' Bool.true_and List.take_length stk_st' stside stH hp_self hp_hp isnside isnval
set_option linter.unusedVariables false
set_option linter.unusedSimpArgs false
def pol0 : Pol := ⟨0, [], [], [], [], [], 0, 0, 0⟩
def readP (s : Str) : Pol := (splitS s nlS).foldl (fun p l => takenP p (splitS l spS)) pol0
def readR (s : Str) : AVal := if rightP (readP s) = true ∧ textP (readP s) = s then .tup [.agg (polCells (readP s)), .v (.int .i64 0)] else .tup [.agg (polCells pol0), .v (.int .i64 2)]
structure Small (p : Pol) (n m : Nat) : Prop where
  elems : p.elems.length ≤ n
  attrs : p.attrs.length ≤ n
  schemes : p.schemes.length ≤ n
  classes : p.classes.length ≤ n
  props : p.props.length ≤ n
  elemz : ∀ s ∈ p.elems, s.size ≤ m
  attrz : ∀ s ∈ p.attrs, s.size ≤ m
  schemez : ∀ s ∈ p.schemes, s.size ≤ m
  classez : ∀ s ∈ p.classes, s.size ≤ m
  propz : ∀ s ∈ p.props, s.size ≤ m
theorem Small.fits {p : Pol} {n m : Nat} (h : Small p n m) (hn : n ≤ 20000) (hm : m ≤ 20000) : Fits p :=
  ⟨Nat.le_trans h.elems hn, Nat.le_trans h.attrs hn, Nat.le_trans h.schemes hn, Nat.le_trans h.classes hn, Nat.le_trans h.props hn, fun l hl s hs => by
    simp only [List.mem_cons, List.not_mem_nil, or_false] at hl
    rcases hl with rfl | rfl | rfl | rfl | rfl
    · exact Nat.le_trans (h.elemz s hs) hm
    · exact Nat.le_trans (h.attrz s hs) hm
    · exact Nat.le_trans (h.schemez s hs) hm
    · exact Nat.le_trans (h.classez s hs) hm
    · exact Nat.le_trans (h.propz s hs) hm⟩
theorem Small.up {p : Pol} {n m : Nat} (h : Small p n m) : Small p (n + 1) m :=
  ⟨Nat.le_succ_of_le h.elems, Nat.le_succ_of_le h.attrs, Nat.le_succ_of_le h.schemes, Nat.le_succ_of_le h.classes, Nat.le_succ_of_le h.props, h.elemz, h.attrz, h.schemez, h.classez, h.propz⟩
theorem mem_snoc {l : List Str} {w : Str} {m : Nat} (h : ∀ s ∈ l, s.size ≤ m) (hw : w.size ≤ m) : ∀ s ∈ l ++ [w], s.size ≤ m := fun s hs => by
  rcases List.mem_append.1 hs with h2 | h2
  · exact h s h2
  · rw [List.mem_singleton.1 h2]; exact hw
theorem len_snoc {l : List Str} {w : Str} {n : Nat} (h : l.length ≤ n) : (l ++ [w]).length ≤ n + 1 := by simp; omega
theorem getD_size {ws : List Str} {m : Nat} (h : ∀ s ∈ ws, s.size ≤ m) (i : Nat) : (ws.getD i ByteArray.empty).size ≤ m := by
  rw [List.getD_eq_getElem?_getD]
  by_cases hi : i < ws.length
  · rw [List.getElem?_eq_getElem hi]; exact h _ (List.getElem_mem hi)
  · rw [List.getElem?_eq_none (by omega)]; exact Nat.zero_le _
theorem Small.taken {p : Pol} {n m : Nat} (h : Small p n m) {ws : List Str} (hw : ∀ s ∈ ws, s.size ≤ m) : Small (takenP p ws) (n + 1) m := by
  have k := h.up
  have w1 := getD_size hw 1
  unfold takenP
  dsimp only
  split
  · exact ⟨k.elems, k.attrs, k.schemes, k.classes, k.props, k.elemz, k.attrz, k.schemez, k.classez, k.propz⟩
  split
  · exact k
  split
  · exact ⟨k.elems, k.attrs, k.schemes, k.classes, k.props, k.elemz, k.attrz, k.schemez, k.classez, k.propz⟩
  split
  · exact ⟨len_snoc h.elems, k.attrs, k.schemes, k.classes, k.props, mem_snoc k.elemz w1, k.attrz, k.schemez, k.classez, k.propz⟩
  split
  · exact ⟨k.elems, len_snoc h.attrs, k.schemes, k.classes, k.props, k.elemz, mem_snoc k.attrz w1, k.schemez, k.classez, k.propz⟩
  split
  · exact ⟨k.elems, k.attrs, len_snoc h.schemes, k.classes, k.props, k.elemz, k.attrz, mem_snoc k.schemez w1, k.classez, k.propz⟩
  split
  · exact ⟨k.elems, k.attrs, k.schemes, len_snoc h.classes, k.props, k.elemz, k.attrz, k.schemez, mem_snoc k.classez w1, k.propz⟩
  split
  · exact ⟨k.elems, k.attrs, k.schemes, k.classes, len_snoc h.props, k.elemz, k.attrz, k.schemez, k.classez, mem_snoc k.propz w1⟩
  · exact k
theorem splitB_size (sep : ByteArray) : ∀ (k : Nat) (s : ByteArray), ∀ x ∈ Lib.splitB sep 0 k s, x.size ≤ s.size
  | 0, s, x, h => by
    rw [List.mem_singleton.1 h]; exact Nat.le_refl _
  | k + 1, s, x, h => by
    unfold Lib.splitB at h
    split at h
    · rw [List.mem_singleton.1 h]; exact Nat.le_refl _
    · rcases List.mem_cons.1 h with rfl | h
      · rw [ByteArray.size_extract]; omega
      · have := splitB_size sep k _ x h
        rw [ByteArray.size_extract] at this; omega
theorem splitS_size {s sep x : Str} (h : x ∈ splitS s sep) : x.size ≤ s.size := splitB_size sep _ s x h
theorem splitS_len_le {s sep : Str} (h : 1 ≤ sep.size) : (splitS s sep).length ≤ s.size + 1 := by
  rw [splitS_len h]
  have := Lib.countB_le sep h s.size s (Nat.le_refl _)
  omega
/-- What the fold makes stays small. -/
theorem fold_small {m : Nat} : ∀ (ls : List Str) (p : Pol) (n : Nat), (∀ l ∈ ls, l.size ≤ m) → Small p n m → Small (ls.foldl (fun p l => takenP p (splitS l spS)) p) (n + ls.length) m
  | [], p, n, _, h => h
  | l :: ls, p, n, hl, h => by
    have := fold_small ls (takenP p (splitS l spS)) (n + 1) (fun x hx => hl x (by simp [hx])) (h.taken fun x hx => Nat.le_trans (splitS_size hx) (hl l (by simp)))
    rw [List.length_cons, show n + (ls.length + 1) = n + 1 + ls.length by omega]
    exact this
theorem pol0_small (n m : Nat) : Small pol0 n m := ⟨Nat.zero_le _, Nat.zero_le _, Nat.zero_le _, Nat.zero_le _, Nat.zero_le _, (fun _ h => by cases h), (fun _ h => by cases h), (fun _ h => by cases h), (fun _ h => by cases h), (fun _ h => by cases h)⟩
theorem readP_small (s : Str) : Small (readP s) (s.size + 1) s.size := by
  have := fold_small (m := s.size) (splitS s nlS) pol0 0 (fun l hl => splitS_size hl) (pol0_small _ _)
  have h2 := splitS_len_le (s := s) (sep := nlS) (by decide)
  exact ⟨by have := this.elems; unfold readP; omega, by have := this.attrs; unfold readP; omega, by have := this.schemes; unfold readP; omega, by have := this.classes; unfold readP; omega, by have := this.props; unfold readP; omega, this.elemz, this.attrz, this.schemez, this.classez, this.propz⟩
def polX (p : Pol) (x1 x2 x3 x4 x5 : AVal) : List AVal := [.v (.int .i64 p.epoch), x1, x2, x3, x4, x5, .v (.int .i64 p.depth), .v (.int .i64 p.nodes), .v (.int .i64 p.bytes)]
theorem FZ.polX {H H' : AHeap} {p : Pol} {x1 x2 x3 x4 x5 : AVal} (h1 : FZ H H' x1 (.sl false 1 (strRows p.elems))) (h2 : FZ H H' x2 (.sl false 1 (strRows p.attrs))) (h3 : FZ H H' x3 (.sl false 1 (strRows p.schemes))) (h4 : FZ H H' x4 (.sl false 1 (strRows p.classes))) (h5 : FZ H H' x5 (.sl false 1 (strRows p.props))) :
    ∀ j (hj : j < (polX p x1 x2 x3 x4 x5).length) (hj' : j < (polCells p).length), FZ H H' (polX p x1 x2 x3 x4 x5)[j] (polCells p)[j] := fun j hj hj' => by
  rcases j with _ | _ | _ | _ | _ | _ | _ | _ | _ | j
  · exact .refl _
  · exact h1
  · exact h2
  · exact h3
  · exact h4
  · exact h5
  · exact .refl _
  · exact .refl _
  · exact .refl _
  · simp [M.polX] at hj; omega
theorem polCells_one (p : Pol) : ∀ j (hj : j < (polCells p).length), (polCells p)[j].one = true := fun j hj => by
  rcases j with _ | _ | _ | _ | _ | _ | _ | _ | _ | j
  · rfl
  · rfl
  · rfl
  · rfl
  · rfl
  · rfl
  · rfl
  · rfl
  · rfl
  · simp [polCells] at hj; omega
theorem FZ.tup2 {H H' : AHeap} {x y x' y' : AVal} (h1 : FZ H H' x x') (h2 : FZ H H' y y') : FZ H H' (.tup [x, y]) (.tup [x', y']) := .tup rfl fun j hj hj' => by
  rcases j with _ | _ | j
  · exact h1
  · exact h2
  · simp at hj; omega
theorem RowO.fz {H H' : AHeap} {E : Nat} {x : AVal} {l : List Str} (h : RowO H E 1 x (strRows l)) (hd : ∀ b, blkOf x = some b → H' b = none) : FZ H H' x (.sl false 1 (strRows l)) := h.row.fz (strGood l) hd
abbrev zeroCells : List AVal := [.v (.int .i64 0), .v (.slice none 0 0), .v (.slice none 0 0), .v (.slice none 0 0), .v (.slice none 0 0), .v (.slice none 0 0), .v (.int .i64 0), .v (.int .i64 0), .v (.int .i64 0)]
theorem FZ.zero {H H' : AHeap} : FZ H H' (.agg zeroCells) (.agg (polCells pol0)) := .agg rfl (polCells_one _) (FZ.polX (p := pol0) (.nil 1) (.nil 1) (.nil 1) (.nil 1) (.nil 1))
theorem RowO.gone {H : AHeap} {E sz r T : Nat} {x : AVal} {rows : List (List AVal)} {cs : List AVal} {o : AObj} (h : RowO H E sz x rows) (hr : H r = some (.cells T cs)) : ∀ b, blkOf x = some b → (AHeap.none.put r o) b = none := fun b hb => by
  have := h.blk hb
  rw [hp_ne]; rfl
  intro e; rw [e, hr] at this; cases this
def c_Read : AFn := ⟨1, 34, [34, 3],
  .seq (.ops [⟨(some 2), none, .e (.alloc 25 [(.int .i64 0), (.slice none 0 0), (.slice none 0 0), (.slice none 0 0), (.slice none 0 0), (.slice none 0 0), (.int .i64 0), (.int .i64 0), (.int .i64 0)])⟩,
      ⟨(some 3), none, .q (.mv (.const (.int .i64 0)))⟩])
  (.seq (.ops [⟨(some 4), none, .e (.alloc 25 [(.int .i64 0), (.slice none 0 0), (.slice none 0 0), (.slice none 0 0), (.slice none 0 0), (.slice none 0 0), (.int .i64 0), (.int .i64 0), (.int .i64 0)])⟩])
  (.seq (.seq (.ops [⟨(some 9), none, .q (.mv (.tmp 0))⟩,
      ⟨(some 10), none, .e (.call 56 [(.tmp 9), (.const (.string ⟨#[10]⟩))])⟩,
      ⟨(some 11), none, .q (.len false (.tmp 10))⟩,
      ⟨(some 12), none, .q (.mv (.const (.int .i64 0)))⟩])
  (.block 0 (.loop (.seq (.ops [⟨(some 13), none, .q (.bin .lss .num (.tmp 12) (.tmp 11))⟩])
      (.seq (.cond (.tmp 13)
        (.skip)
        (.exit 0))
      (.seq (.block 1 (.seq (.ops [⟨(some 14), none, .q (.ixa 1 (.tmp 10) (.tmp 12))⟩,
            ⟨(some 15), none, .q (.ld false 1 (.tmp 14))⟩,
            ⟨(some 6), none, .q (.mv (.tmp 15))⟩])
        (.ops [⟨(some 16), none, .q (.mv (.tmp 6))⟩,
            ⟨(some 17), none, .e (.call 56 [(.tmp 16), (.const (.string ⟨#[32]⟩))])⟩,
            ⟨(some 18), none, .e (.call 57 [(.tmp 4), (.tmp 17)])⟩])))
      (.ops [⟨(some 19), none, .q (.bin .add .num (.tmp 12) (.const (.int .i64 1)))⟩,
          ⟨(some 12), none, .q (.mv (.tmp 19))⟩])))))))
  (.seq (.seq (.ops [⟨(some 21), none, .q (.ld true 9 (.tmp 4))⟩,
      ⟨(some 22), none, .e (.call 36 [(.tmp 21)])⟩,
      ⟨(some 20), none, .q (.mv (.tmp 22))⟩,
      ⟨(some 23), none, .q (.ext (.tmp 20) 0)⟩,
      ⟨(some 24), none, .q (.ext (.tmp 20) 1)⟩,
      ⟨(some 7), none, .q (.mv (.tmp 23))⟩,
      ⟨(some 8), none, .q (.mv (.tmp 24))⟩])
  (.seq (.ops [⟨(some 25), none, .q (.mv (.tmp 8))⟩,
      ⟨(some 26), none, .q (.bin .neq .num (.tmp 25) (.const (.int .i64 0)))⟩,
      ⟨(some 27), none, .q (.mv (.tmp 26))⟩,
      ⟨(some 28), (some (27, false)), .q (.mv (.tmp 7))⟩,
      ⟨(some 29), (some (27, false)), .q (.mv (.tmp 0))⟩,
      ⟨(some 30), (some (27, false)), .q (.bin .neq .num (.tmp 28) (.tmp 29))⟩,
      ⟨(some 31), none, .q (.pick (.tmp 27) (.const (.bool true)) (.tmp 30))⟩])
  (.cond (.tmp 31)
    (.seq (.ops [⟨(some 32), none, .q (.bld [(.int .i64 0), (.slice none 0 0), (.slice none 0 0), (.slice none 0 0), (.slice none 0 0), (.slice none 0 0), (.int .i64 0), (.int .i64 0), (.int .i64 0)] [])⟩,
        ⟨none, none, .e (.st 9 (.tmp 2) (.tmp 32))⟩,
        ⟨(some 3), none, .q (.mv (.const (.int .i64 2)))⟩])
    (.ret))
    (.skip))))
  (.seq (.ops [⟨(some 33), none, .q (.ld true 9 (.tmp 4))⟩,
      ⟨none, none, .e (.st 9 (.tmp 2) (.tmp 33))⟩,
      ⟨(some 3), none, .q (.mv (.const (.int .i64 0)))⟩])
  (.ret))))), [(34, (2, (true, 9)))]⟩
theorem k_Read : compF Tryz.prog 29 = some c_Read := by kernel_rfl
set_option maxHeartbeats 8000000 in
theorem read_ok {W : World} (L : Laid W) (E : Errs W) (s : Str) (hs : s.size ≤ 19000) : ACalls Tryz.prog W 29 [.v (.string s)] AHeap.none fun v _ => v = readR s := by
  refine fn_run follows k_Read rfl ?_
  simp only [c_Read, aretC_nil, List.zipIdx_cons, List.zipIdx_nil, List.map_cons, List.map_nil, Nat.zero_add]
  (try simp +decide (implicitDefEqProofs := false) only [go_sem, ↓stk_g, ↓stk_c, ↓reduceIte])
  rw [stk_alloc]
  intro r hr
  (try simp +decide (implicitDefEqProofs := false) only [go_sem, ↓stk_g, ↓stk_c, ↓reduceIte])
  rw [stk_alloc]
  intro g hg
  have ngr := new_ne (hp_self _ _ _) hg
  (try simp +decide (implicitDefEqProofs := false) only [go_sem, ↓stk_g, ↓stk_c, ↓reduceIte])
  refine stk_pure (split_ok L s nlS (by omega) (by decide)) fun v hv => ?_
  subst hv
  have hlen := splitS_len_le (s := s) (sep := nlS) (by decide)
  have hsz : ∀ l ∈ splitS s nlS, l.size ≤ s.size := fun l hl => splitS_size hl
  have hread : readP s = (splitS s nlS).foldl (fun p l => takenP p (splitS l spS)) pol0 := rfl
  generalize splitS s nlS = ls at hlen hsz hread
  (try simp +decide (implicitDefEqProofs := false) only [go_sem, ↓stk_g, ↓stk_c, ↓reduceIte])
  refine stk_up (α := AHeap) ls.length (fun i H => ⟨[(12, .v (.int .i64 i)), (11, .v (.int .i64 ls.length)), (10, .sl true 1 (strRows ls)), (4, .v (.pointer (some ⟨g, 0, none⟩))), (2, .v (.pointer (some ⟨r, 0, none⟩))), (0, .v (.string s))], H⟩) (fun i H => (∃ x1 x2 x3 x4 x5, PolH H g ((ls.take i).foldl (fun p l => takenP p (splitS l spS)) pol0) x1 x2 x3 x4 x5) ∧ H r = some (.cells 25 zeroCells)) _ (Weak.list _ (Sub.refl _) (by (try simp +decide (implicitDefEqProofs := false) only [go_sem, ↓stk_g, ↓stk_c, ↓reduceIte]))) ?_ ?_
  · refine ⟨⟨_, _, _, _, _, hp_self _ _ _, .nil, .nil, .nil, .nil, .nil, ?_, ?_, ?_, ?_, ?_, ?_, ?_, ?_, ?_, ?_⟩, (hp_ne _ _ (Ne.symm ngr)).trans (hp_self _ _ _)⟩
    all_goals (intro c hc; cases hc)
  clear hr hg
  rintro i H hi ⟨⟨x1, x2, x3, x4, x5, hP⟩, hr⟩
  have hsm := fold_small (m := s.size) (ls.take i) pol0 0 (fun l hl => hsz l (List.mem_of_mem_take hl)) (pol0_small _ _)
  rw [List.length_take, Nat.zero_add] at hsm
  by_cases hlt : i < ls.length
  · have g1 : (i : Int) < (ls.length : Int) := by omega
    have hw := wrap_in (n := (i : Int) + 1) (by omega) (by omega)
    have hgt := strRows_get hlt
    have hget : ls.getD i ByteArray.empty = ls[i] := by simp [hlt]
    have hlz := hsz (ls.getD i ByteArray.empty) (by rw [hget]; exact List.getElem_mem _)
    have hfold : (ls.take (i + 1)).foldl (fun p l => takenP p (splitS l spS)) pol0 = takenP ((ls.take i).foldl (fun p l => takenP p (splitS l spS)) pol0) (splitS (ls.getD i ByteArray.empty) spS) := by
      rw [List.take_succ_eq_append_getElem hlt, List.foldl_append, hget]; rfl
    rw [hfold]
    generalize (ls.take i).foldl (fun p l => takenP p (splitS l spS)) pol0 = p at hP hsm ⊢
    generalize ls.getD i ByteArray.empty = l at hgt hlz ⊢
    (try simp +decide (implicitDefEqProofs := false) only [go_sem, ↓stk_g, ↓stk_c, ↓reduceIte, g1, hlt, hgt])
    refine stk_pure (split_ok L l spS (by omega) (by decide)) fun v hv => ?_
    subst hv
    have hw1 := splitS_len_le (s := l) (sep := spS) (by decide)
    have hw2 : ∀ x ∈ splitS l spS, x.size ≤ 1000000000 := fun x hx => by have := splitS_size hx; omega
    generalize splitS l spS = ws at hw1 hw2 ⊢
    (try simp +decide (implicitDefEqProofs := false) only [go_sem, ↓stk_g, ↓stk_c, ↓reduceIte])
    have b1 := hsm.elems
    have b2 := hsm.attrs
    have b3 := hsm.schemes
    have b4 := hsm.classes
    have b5 := hsm.props
    refine stk_call (taken_ok (f := true) E ws hP (by omega) hw2 ⟨by omega, by omega, by omega, by omega, by omega⟩) fun v H' hv => ?_
    obtain ⟨⟨y1, y2, y3, y4, y5, hP'⟩, hK⟩ := hv
    have hr' := hK r _ _ hr (Ne.symm ngr)
    (try simp +decide (implicitDefEqProofs := false) only [go_sem, ↓stk_g, ↓stk_c, ↓reduceIte, hw])
    exact ⟨H', Weak.list _ (Sub.refl _) (by (try simp +decide (implicitDefEqProofs := false) only [go_sem, ↓stk_g, ↓stk_c, ↓reduceIte])), ⟨y1, y2, y3, y4, y5, hP'⟩, hr'⟩
  · have g1 : ¬ (i : Int) < (ls.length : Int) := by omega
    rw [List.take_of_length_le (by omega), ← hread] at hP
    have F := (readP_small s).fits (by omega) (by omega)
    unfold readR
    generalize readP s = p at hP F ⊢
    have hhere := hP.here
    (try simp +decide (implicitDefEqProofs := false) only [go_sem, ↓stk_g, ↓stk_c, ↓reduceIte, g1, hhere, lay, oneOr, List.take_succ_cons, List.take_zero, List.drop_succ_cons, List.drop_zero, List.nil_append, List.cons_append, Option.getD_some, Nat.reduceAdd, Nat.reduceLeDiff, List.append_nil, and_self, List.all_cons, List.all_nil])
    refine stk_pureW ⟨[(21, .agg (polCells p)), (4, .pl (polCells p)), (2, .v (.pointer (some ⟨r, 0, none⟩))), (0, .v (.string s))], AHeap.none.put r (.cells 25 zeroCells)⟩ (Weak.list _ (fun b o hb => ?_) ?_) (text_ok L p F) fun v hv => ?_
    · simp only [AHeap.put] at hb
      split at hb
      · rename_i e; subst e; rw [hr]; exact hb
      · cases hb
    · have q := FZ.polX (H := H) (H' := AHeap.none.put r (.cells 25 zeroCells)) (p := p) (hP.r1.fz (hP.r1.gone hr)) (hP.r2.fz (hP.r2.gone hr)) (hP.r3.fz (hP.r3.gone hr)) (hP.r4.fz (hP.r4.gone hr)) (hP.r5.fz (hP.r5.gone hr))
      (try simp +decide (implicitDefEqProofs := false) only [go_sem, ↓stk_g, ↓stk_c, ↓reduceIte])
      exact ⟨.agg rfl (polCells_one p) q, .cells hhere (by rw [hp_ne _ _ ngr]; rfl) rfl q⟩
    subst hv
    unfold textR
    cases hrt : rightP p
    · (try simp +decide (implicitDefEqProofs := false) only [go_sem, ↓stk_g, ↓stk_c, ↓reduceIte, lay, oneOr, List.take_succ_cons, List.take_zero, List.drop_succ_cons, List.drop_zero, List.nil_append, List.cons_append, Option.getD_some, Nat.reduceAdd, Nat.reduceLeDiff, List.append_nil, and_self, List.all_cons, List.all_nil])
      refine aretC_one (by (try simp +decide (implicitDefEqProofs := false) only [go_sem, ↓stk_g, ↓stk_c, ↓reduceIte, hp_self, lay, oneOr, List.take_succ_cons, List.take_zero, List.drop_succ_cons, List.drop_zero, List.nil_append, List.cons_append, Option.getD_some, Nat.reduceAdd, Nat.reduceLeDiff, List.append_nil, and_self, List.all_cons, List.all_nil])) ?_
      (try simp +decide (implicitDefEqProofs := false) only [go_sem, ↓stk_g, ↓stk_c, ↓reduceIte, hp_self, lay, oneOr, List.take_succ_cons, List.take_zero, List.drop_succ_cons, List.drop_zero, List.nil_append, List.cons_append, Option.getD_some, Nat.reduceAdd, Nat.reduceLeDiff, List.append_nil, and_self, List.all_cons, List.all_nil])
      exact ⟨.inr rfl, AHeap.none, _, Sub.none _, .tup2 .zero (.refl _), by rw [if_neg (by simp)]; rfl⟩
    by_cases he : textP p = s
    · have h1 : decide (textP p ≠ s) = false := by simp [he]
      (try simp +decide (implicitDefEqProofs := false) only [go_sem, ↓stk_g, ↓stk_c, ↓reduceIte, h1, polCells, lay, oneOr, List.take_succ_cons, List.take_zero, List.drop_succ_cons, List.drop_zero, List.nil_append, List.cons_append, Option.getD_some, Nat.reduceAdd, Nat.reduceLeDiff, List.append_nil, and_self, List.all_cons, List.all_nil])
      refine aretC_one (by (try simp +decide (implicitDefEqProofs := false) only [go_sem, ↓stk_g, ↓stk_c, ↓reduceIte, hp_self, lay, oneOr, List.take_succ_cons, List.take_zero, List.drop_succ_cons, List.drop_zero, List.nil_append, List.cons_append, Option.getD_some, Nat.reduceAdd, Nat.reduceLeDiff, List.append_nil, and_self, List.all_cons, List.all_nil])) ?_
      (try simp +decide (implicitDefEqProofs := false) only [go_sem, ↓stk_g, ↓stk_c, ↓reduceIte, hp_self, lay, oneOr, List.take_succ_cons, List.take_zero, List.drop_succ_cons, List.drop_zero, List.nil_append, List.cons_append, Option.getD_some, Nat.reduceAdd, Nat.reduceLeDiff, List.append_nil, and_self, List.all_cons, List.all_nil])
      exact ⟨.inr rfl, AHeap.none, _, Sub.none _, .refl _, by rw [if_pos he]; rfl⟩
    · have h1 : decide (textP p ≠ s) = true := by simp [he]
      (try simp +decide (implicitDefEqProofs := false) only [go_sem, ↓stk_g, ↓stk_c, ↓reduceIte, h1, polCells, lay, oneOr, List.take_succ_cons, List.take_zero, List.drop_succ_cons, List.drop_zero, List.nil_append, List.cons_append, Option.getD_some, Nat.reduceAdd, Nat.reduceLeDiff, List.append_nil, and_self, List.all_cons, List.all_nil])
      refine aretC_one (by (try simp +decide (implicitDefEqProofs := false) only [go_sem, ↓stk_g, ↓stk_c, ↓reduceIte, hp_self, lay, oneOr, List.take_succ_cons, List.take_zero, List.drop_succ_cons, List.drop_zero, List.nil_append, List.cons_append, Option.getD_some, Nat.reduceAdd, Nat.reduceLeDiff, List.append_nil, and_self, List.all_cons, List.all_nil])) ?_
      (try simp +decide (implicitDefEqProofs := false) only [go_sem, ↓stk_g, ↓stk_c, ↓reduceIte, hp_self, lay, oneOr, List.take_succ_cons, List.take_zero, List.drop_succ_cons, List.drop_zero, List.nil_append, List.cons_append, Option.getD_some, Nat.reduceAdd, Nat.reduceLeDiff, List.append_nil, and_self, List.all_cons, List.all_nil])
      exact ⟨.inr rfl, AHeap.none, _, Sub.none _, .tup2 .zero (.refl _), by rw [if_neg he]; rfl⟩
end Go.Proofs.YtcplmaffccfbdaaGreatDoor.M
