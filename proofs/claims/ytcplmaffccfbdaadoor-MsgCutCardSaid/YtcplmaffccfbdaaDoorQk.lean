/-
  The law MsgCut: a beginning of a message's text is none.
-/
import Derived.Test.YtcplmaffccfbdaaDoorQf
namespace Go.Proofs.YtcplmaffccfbdaaDoor.M
open Go.RowKit
attribute [local go_sem] stk_nil stk_skip stk_ops stk_seq stk_block stk_scope stk_exit stk_ret stk_code_exit stk_code_ret stk_ops_exit stk_ops_ret stk_endb stk_endb_exit stk_endb_ret stk_endl stk_endl_exit stk_endl_ret stk_ops_nil stk_q stk_niq niqA flip srcOf stk_bsl side val bside bval uside uval cside cval bndS bndV intA isInt lside lval fside fval faside faval iside ival sxside sxval sizeA slside slval llside llval lenside lenval lenA tupA mmside mmval nkside boolA isBool ev_t ev_c tget put_s put_n lkside lkval menval stk_mk Option.isSome_some isMapA mapA keyA FZ_rfl FZ_any retOf true_and and_true if_true if_false decide_true decide_false Bool.not_true Bool.not_false Nat.zero_add List.map_cons List.map_nil Int.toNat_natCast strRows_len intRows_len List.getD_cons_zero List.getD_cons_succ List.length_cons List.length_nil List.forall_mem_cons List.not_mem_nil false_implies implies_true Int.ofNat_zero Int.natCast_add Int.natCast_one Int.ofNat_one Int.natCast_zero isB isU Bool.false_eq_true beq_self_eq_true Bool.false_beq Bool.true_beq Int.natCast_nonneg undef strRows_take strRows_drop Int.toNat_zero List.drop_zero Bool.and_true oneOr List.all_cons List.all_nil AVal.one Value.oneCell' Bool.true_and List.take_length stk_st' stside stH hp_self hp_hp isnside isnval
set_option linter.unusedVariables false
set_option linter.unusedSimpArgs false
theorem takeWhile_all {q : UInt8 → Bool} : ∀ (l : List UInt8) (j : Nat) (hj : j < l.length), j < (l.takeWhile q).length → q l[j] = true
  | [], j, hj, _ => by simp at hj
  | c :: l, j, hj, h => by
    by_cases hc : q c = true
    · cases j with
      | zero => exact hc
      | succ j =>
        simp [List.takeWhile, hc] at h
        exact takeWhile_all l j (by simpa using hj) h
    · simp [List.takeWhile, hc] at h
theorem digK_spec (l : List UInt8) : digK l ≤ 6 ∧ digK l ≤ l.length ∧ ∀ j (hj : j < l.length), j < digK l → isDig l[j] := by
  have h1 : digK l ≤ (l.take 6).length := (List.takeWhile_prefix _).length_le
  rw [List.length_take] at h1
  refine ⟨by omega, by omega, fun j hj h => ?_⟩
  have := takeWhile_all (l.take 6) j (by rw [List.length_take]; omega) h
  rw [List.getElem_take] at this
  exact of_decide_eq_true this
theorem bt_app {a b : Str} {i : Nat} (h : i < a.size) : bt (a ++ b) (i : Int) = bt a (i : Int) := by
  have h1 : i < (bl a).length := by rw [bl_len]; exact h
  have h2 : i < (bl (a ++ b)).length := by rw [bl_app, List.length_append]; omega
  rw [bt_get h1, bt_get h2]
  have e : (bl (a ++ b))[i] = (bl a)[i] := by simp only [bl_app]; rw [List.getElem_append_left h1]
  rw [e]
theorem cutS_app1 {a b : Str} {l h : Nat} (hh : h ≤ a.size) : cutS (a ++ b) (l : Int) (h : Int) = cutS a (l : Int) (h : Int) := bl_inj (by
  rw [bl_cut _ _ _ (by rw [ByteArray.size_append]; omega), bl_cut _ _ _ hh, bl_app, List.take_append_of_le_length (by rw [bl_len]; exact hh)])
theorem cutS_app2 {a b : Str} {l : Nat} (hl : l ≤ a.size) : cutS (a ++ b) (l : Int) ((a ++ b : Str).size : Int) = cutS a (l : Int) (a.size : Int) ++ b := bl_inj (by
  rw [bl_cut _ _ _ (Nat.le_refl _), bl_app, bl_app, bl_cut _ _ _ (Nat.le_refl _), List.take_of_length_le (by rw [List.length_append, bl_len, bl_len, ByteArray.size_append]; omega), List.take_of_length_le (by rw [bl_len]; omega), List.drop_append_of_le_length (by rw [bl_len]; exact hl)])
/-- A field that is whole stays the first one. -/
theorem fieldV_mono {u : Str} (g : Str) (h : (fieldV u).2.2 = 0) : fieldV (u ++ g) = ((fieldV u).1, (fieldV u).2.1 ++ g, 0) := by
  obtain ⟨k6, kl, kd⟩ := digK_spec (bl u)
  have hul := bl_len u
  revert h
  unfold fieldV
  generalize digK (bl u) = k at k6 kl kd
  by_cases c1 : k = 0 ∨ (1 < k ∧ bt u 0 = 48)
  · unfold fieldK; rw [if_pos c1]; intro h; simp at h
  by_cases c2 : cutS u k u.size = ByteArray.empty
  · unfold fieldK; rw [if_neg c1, if_pos c2]; intro h; simp at h
  have hrp := size_pos c2
  have hrs : (cutS u (k : Int) (u.size : Int)).size = u.size - k := by unfold cutS; rw [ByteArray.size_extract]; omega
  by_cases c3 : bt (cutS u k u.size) 0 = 58
  rotate_left
  · unfold fieldK; rw [if_neg c1, if_neg c2, if_pos c3]; intro h; simp at h
  have hku : k < u.size := by omega
  have h58 : (bl u)[k]'(by omega) = 58 := by
    have e : (bl (cutS u (k : Int) (u.size : Int)))[0]? = some ((bl u)[k]'(by omega)) := by
      rw [bl_cut u k u.size (Nat.le_refl _), List.take_of_length_le (by omega), List.getElem?_drop, Nat.add_zero, List.getElem?_eq_getElem (by omega)]
    have e2 := bt_at (k := 0) e
    have e3 : ((((bl u)[k]'(by omega)).toNat : Nat) : Int) = 58 := by rw [← e2]; exact c3
    exact UInt8.toNat_inj.1 (by have : (58 : UInt8).toNat = 58 := rfl; omega)
  have hK : digK (bl (u ++ g)) = k := by
    have hlen : (bl (u ++ g)).length = (bl u).length + (bl g).length := by rw [bl_app, List.length_append]
    refine digK_at (by omega) k6 (fun j hj hjk => ?_) (.inr (.inr ⟨by omega, ?_⟩))
    · have e : (bl (u ++ g))[j] = (bl u)[j]'(by omega) := by simp only [bl_app]; rw [List.getElem_append_left (by omega)]
      rw [e]; exact kd j (by omega) hjk
    · have e : (bl (u ++ g))[k]'(by omega) = (bl u)[k]'(by omega) := by simp only [bl_app]; rw [List.getElem_append_left (by omega)]
      rw [e, h58]; decide
  have htk : (bl (u ++ g)).take k = (bl u).take k := by rw [bl_app, List.take_append_of_le_length kl]
  have hr := cutS_app2 (a := u) (b := g) (l := k) (by omega)
  rw [hK]
  unfold fieldK
  rw [htk, hr]
  have hb0 : bt (u ++ g) 0 = bt u 0 := bt_app (i := 0) (by omega)
  rw [hb0, if_neg c1, if_neg c1, if_neg c2]
  generalize cutS u (k : Int) (u.size : Int) = r at c2 c3 hrp hrs
  generalize dval 0 ((bl u).take k) = n
  have hr0 : bt (r ++ g) 0 = bt r 0 := bt_app (i := 0) (by omega)
  have hne : (r ++ g : Str) ≠ ByteArray.empty := fun h => by
    have := congrArg ByteArray.size h
    rw [ByteArray.size_append] at this
    have e0 : ByteArray.empty.size = 0 := rfl
    omega
  rw [if_neg (show ¬ (bt r 0 ≠ 58) from fun h => h c3), if_neg hne, hr0, if_neg (show ¬ (bt r 0 ≠ 58) from fun h => h c3)]
  by_cases c4 : (r.size : Int) - 1 ≤ (n : Int)
  · rw [if_pos c4]; intro h; simp at h
  rw [if_neg c4]
  have hn1 : n + 1 < r.size := by omega
  have hbn : bt (r ++ g) (1 + (n : Int)) = bt r (1 + (n : Int)) := by
    rw [show (1 : Int) + (n : Int) = ((n + 1 : Nat) : Int) by omega]; exact bt_app hn1
  have hsz : ((r ++ g : Str).size : Int) = (r.size : Int) + (g.size : Int) := by rw [ByteArray.size_append]; omega
  by_cases c5 : bt r (1 + (n : Int)) = 44
  rotate_left
  · rw [if_pos c5]; intro h; simp at h
  rw [if_neg (show ¬ (bt r (1 + (n : Int)) ≠ 44) from fun h => h c5), if_neg (show ¬ (((r ++ g : Str).size : Int) - 1 ≤ (n : Int)) by omega), hbn, if_neg (show ¬ (bt r (1 + (n : Int)) ≠ 44) from fun h => h c5)]
  intro _
  have e1 : cutS (r ++ g) 1 (1 + (n : Int)) = cutS r 1 (1 + (n : Int)) := by
    rw [show (1 : Int) + (n : Int) = ((n + 1 : Nat) : Int) by omega, show (1 : Int) = ((1 : Nat) : Int) from rfl]
    exact cutS_app1 (by omega)
  have e2 : cutS (r ++ g) (2 + (n : Int)) ((r ++ g : Str).size : Int) = cutS r (2 + (n : Int)) (r.size : Int) ++ g := by
    rw [show (2 : Int) + (n : Int) = ((n + 2 : Nat) : Int) by omega]
    exact cutS_app2 (by omega)
  rw [e1, e2]
/-- What is parsed of a beginning is the beginning of what is parsed. -/
theorem parse_mono : ∀ (n N : Nat) (u g : Str) (l : List Str), u.size ≤ n → (u ++ g : Str).size ≤ N → parseF n u = .inr l → ∃ n', g.size ≤ n' ∧ parseF N (u ++ g) = addP l (parseF n' g)
  | 0, N, u, g, l, h1, h2, h => by
    have hu : u = ByteArray.empty := by
      rcases Nat.eq_zero_or_pos u.size with h3 | h3
      · exact ByteArray.ext (Array.eq_empty_of_size_eq_zero h3)
      · omega
    subst hu
    cases h
    rw [ByteArray.empty_append] at h2 ⊢
    exact ⟨N, h2, (addP_nil _).symm⟩
  | n + 1, N, u, g, l, h1, h2, h => by
    by_cases hu : u = ByteArray.empty
    · subst hu
      rw [parseF_nil] at h
      cases h
      rw [ByteArray.empty_append] at h2 ⊢
      exact ⟨N, h2, (addP_nil _).symm⟩
    by_cases he : (fieldV u).2.2 = 0
    · rw [parseF_step hu he] at h
      have hm := fieldV_mono g he
      obtain ⟨z1, z2⟩ := fieldV_size he
      have hne : (u ++ g : Str) ≠ ByteArray.empty := fun h0 => by
        have := congrArg ByteArray.size h0
        rw [ByteArray.size_append] at this
        have e0 : ByteArray.empty.size = 0 := rfl
        have := size_pos hu
        omega
      have hpos := size_pos hne
      rw [ByteArray.size_append] at h2 hpos
      obtain ⟨N0, rfl⟩ : ∃ N0, N = N0 + 1 := ⟨N - 1, by omega⟩
      cases hp : parseF n (fieldV u).2.1 with
      | inl e' => rw [hp] at h; cases h
      | inr l' =>
        rw [hp] at h
        cases h
        obtain ⟨n', k1, k2⟩ := parse_mono n N0 (fieldV u).2.1 g l' (by omega) (by rw [ByteArray.size_append]; omega) hp
        refine ⟨n', k1, ?_⟩
        rw [parseF_step hne (by rw [hm]), hm, k2, addP_addP]
    · rw [parseF_err hu he] at h; cases h
theorem getD_app {l m : List Str} {i : Nat} (h : i < l.length) : (l ++ m).getD i ByteArray.empty = l.getD i ByteArray.empty := by
  rw [List.getD_eq_getElem?_getD, List.getElem?_append_left h, ← List.getD_eq_getElem?_getD]
theorem itoa_inj {a b : Nat} (h : itoaS (a : Int) = itoaS (b : Int)) : a = b := by
  have h1 := congrArg bl h
  rw [bl_itoa, bl_itoa] at h1
  have h2 := congrArg (dval 0) h1
  rwa [dval_dec, dval_dec] at h2
theorem split_cut (s : Str) {k : Nat} (hk : k ≤ s.size) : s = (cutS s 0 (k : Int) ++ cutS s (k : Int) (s.size : Int) : Str) := bl_inj (by
  rw [bl_app, show (0 : Int) = ((0 : Nat) : Int) from rfl, bl_cut s 0 k hk, bl_cut s k s.size (Nat.le_refl _), List.drop_zero, List.take_of_length_le (i := s.size) (by rw [bl_len]; omega), List.take_append_drop])
/-- The fields of a beginning are a beginning of the fields. -/
theorem cut_fields {m : Msg} (hm : rightM m = true) {k : Nat} (hk : k < (msgT m).size) {l : List Str} (h : parseF (cutS (msgT m) 0 (k : Int)).size (cutS (msgT m) 0 (k : Int)) = .inr l) : ∃ lg, lg ≠ [] ∧ fieldsM m = l ++ lg := by
  have hs := split_cut (msgT m) (k := k) (by omega)
  have hg : (cutS (msgT m) (k : Int) ((msgT m).size : Int)).size = (msgT m).size - k := by unfold cutS; rw [ByteArray.size_extract]; omega
  have hp := parse_cat _ (fieldsM_size hm)
  rw [← msgT_cat] at hp
  generalize cutS (msgT m) (k : Int) ((msgT m).size : Int) = g at hs hg
  generalize cutS (msgT m) 0 (k : Int) = u at hs h
  obtain ⟨n', k1, k2⟩ := parse_mono u.size (msgT m).size u g l (Nat.le_refl _) (by rw [← hs]; exact Nat.le_refl _) h
  rw [← hs, hp] at k2
  cases hpg : parseF n' g with
  | inl e => rw [hpg] at k2; cases k2
  | inr lg =>
    rw [hpg] at k2
    have k3 : fieldsM m = l ++ lg := Sum.inr.inj k2
    refine ⟨lg, fun e => ?_, k3⟩
    subst e
    have hgne : g ≠ ByteArray.empty := fun e => by
      rw [e] at hg
      have e0 : ByteArray.empty.size = 0 := rfl
      omega
    have := size_pos hgne
    obtain ⟨n0, rfl⟩ : ∃ n0, n' = n0 + 1 := ⟨n' - 1, by omega⟩
    by_cases he : (fieldV g).2.2 = 0
    · rw [parseF_step hgne he] at hpg
      cases hq : parseF n0 (fieldV g).2.1 with
      | inl e => rw [hq] at hpg; cases hpg
      | inr l' => rw [hq] at hpg; cases hpg
    · rw [parseF_err hgne he] at hpg; cases hpg
theorem restM_at (m : Msg) (i : Nat) : (fieldsM m).getD (4 + i) ByteArray.empty = (restM m).getD i ByteArray.empty := by
  unfold fieldsM
  rw [List.getD_eq_getElem?_getD, List.getElem?_append_right (by show 4 ≤ _; omega), ← List.getD_eq_getElem?_getD]
  show (restM m).getD (4 + i - 4) _ = _
  rw [Nat.add_sub_cancel_left]
theorem fields_len {m : Msg} : (fieldsM m).length = 4 + (restM m).length := by unfold fieldsM; rw [List.length_append]; rfl
theorem mcut_none {m : Msg} (hm : rightM m = true) {k : Nat} (hk : k < (msgT m).size) : ∃ e, decodeV (cutS (msgT m) 0 (k : Int)) = (msg0, e) ∧ (e = 2 ∨ e = 3) := by
  rcases decode_cases (cutS (msgT m) 0 (k : Int)) with ⟨n, h1, h2, h3⟩ | h
  rotate_left
  · exact h
  exfalso
  have hp := parse_cat _ (fieldsM_size h2)
  rw [← msgT_cat, h3] at hp
  obtain ⟨lg, hlg, he⟩ := cut_fields hm hk hp
  have hl := congrArg List.length he
  rw [List.length_append] at hl
  have hlg1 : 1 ≤ lg.length := List.length_pos_iff.2 hlg
  have h4 := fieldsM_len n
  have Rm := rightM_facts hm
  have Rn := rightM_facts h2
  have km := Rm.kind
  have kn := Rn.kind
  have e0 : itoaS m.kind = itoaS n.kind := by
    have : (fieldsM m).getD 0 ByteArray.empty = (fieldsM n).getD 0 ByteArray.empty := by rw [he, getD_app (by omega)]
    exact this
  have ek : m.kind = n.kind := by
    have h5 := numN_itoa m.kind (by omega) (by omega)
    rw [e0, numN_itoa n.kind (by omega) (by omega)] at h5
    exact h5.symm
  rw [fields_len, fields_len] at hl
  have e4 : 5 ≤ (fieldsM n).length → (restM m).getD 0 ByteArray.empty = (restM n).getD 0 ByteArray.empty := fun h5 => by
    have := restM_at m 0
    rw [he, getD_app (by omega), restM_at n 0] at this
    exact this.symm
  rw [fields_len] at e4
  unfold restM at hl e4
  rw [← ek] at hl e4
  by_cases k1 : m.kind = 1
  · rw [if_pos k1, if_pos k1] at hl e4
    simp only [List.length_cons, List.getD_cons_zero] at hl e4
    have := itoa_inj (e4 (by omega))
    omega
  rw [if_neg k1, if_neg k1] at hl e4
  by_cases k2 : m.kind = 2
  · rw [if_pos k2, if_pos k2] at hl e4
    simp only [List.length_cons, List.getD_cons_zero, flatP_len] at hl e4
    have := itoa_inj (e4 (by omega))
    omega
  rw [if_neg k2, if_neg k2] at hl
  by_cases k3 : m.kind = 3
  · rw [if_pos k3, if_pos k3] at hl
    simp only [List.length_cons, List.length_nil] at hl
    omega
  · rw [if_neg k3, if_neg k3] at hl
    simp only [List.length_nil] at hl
    omega
theorem hsm_cut {m : Msg} (hm : rightM m = true) {k : Nat} (hk : k < (msgT m).size) : ∀ l, parseF (cutS (msgT m) 0 (k : Int)).size (cutS (msgT m) 0 (k : Int)) = .inr l → numN (l.getD 0 ByteArray.empty) = 3 → (l.drop 4).length = 1 → ((l.drop 4).getD 0 ByteArray.empty).size ≤ 19000 := fun l h hk3 h1 => by
  obtain ⟨lg, _, he⟩ := cut_fields hm hk h
  have R := rightM_facts hm
  have h4 := R.kind
  have hl5 : l.length = 5 := by rw [List.length_drop] at h1; omega
  have e : numN ((fieldsM m).getD 0 ByteArray.empty) = m.kind := numN_itoa m.kind (by omega) (by omega)
  rw [he, getD_app (by omega), hk3] at e
  have e4 := restM_at m 0
  rw [he, getD_app (by omega)] at e4
  have hd : (l.drop 4).getD 0 ByteArray.empty = l.getD (4 + 0) ByteArray.empty := by
    rw [List.getD_eq_getElem?_getD, List.getElem?_drop, ← List.getD_eq_getElem?_getD]
  rw [hd, e4]
  unfold restM
  rw [if_neg (by omega), if_neg (by omega), if_pos e.symm]
  exact textP_len (R.pol e.symm)
def xS : Str := ⟨#[120]⟩
theorem decode_more {m : Msg} (hm : rightM m = true) : parseF (msgT m ++ xS : Str).size (msgT m ++ xS) = .inl 2 := by
  obtain ⟨n', k1, k2⟩ := parse_app (fieldsM m) xS (msgT m ++ xS : Str).size (fieldsM_size hm) (by rw [msgT_cat]; exact Nat.le_refl _)
  rw [← msgT_cat] at k2
  rw [k2]
  obtain ⟨n0, rfl⟩ : ∃ n0, n' = n0 + 1 := ⟨n' - 1, by have : xS.size = 1 := rfl; omega⟩
  have hx : (fieldV xS).2.2 = 2 := by decide +kernel
  rw [parseF_err (by decide) (by rw [hx]; decide), hx]
  rfl
def c_law_Cut : AFn := ⟨2, 70, [4],
  .seq (.ops [⟨(some 2), none, .e (.box 27 (.tmp 0))⟩,
      ⟨(some 4), none, .q (.mv (.const (.bool false)))⟩])
  (.seq (.ops [⟨(some 14), none, .e (.call 8 [])⟩,
      ⟨(some 5), none, .q (.mv (.tmp 14))⟩])
  (.seq (.ops [⟨(some 15), none, .q (.ld true 15 (.tmp 2))⟩,
      ⟨(some 16), none, .e (.call 9 [(.tmp 15)])⟩,
      ⟨(some 6), none, .q (.mv (.tmp 16))⟩])
  (.seq (.seq (.ops [⟨(some 17), none, .q (.mv (.tmp 6))⟩,
      ⟨(some 18), none, .q (.un .not (.tmp 17))⟩,
      ⟨(some 19), none, .q (.mv (.tmp 18))⟩,
      ⟨(some 20), (some (19, false)), .q (.mv (.tmp 1))⟩,
      ⟨(some 21), (some (19, false)), .q (.bin .lss .num (.tmp 20) (.const (.int .i64 0)))⟩,
      ⟨(some 22), none, .q (.pick (.tmp 19) (.const (.bool true)) (.tmp 21))⟩])
  (.cond (.tmp 22)
    (.seq (.ops [⟨(some 23), none, .q (.mv (.tmp 5))⟩,
        ⟨(some 4), none, .q (.mv (.tmp 23))⟩])
    (.ret))
    (.skip)))
  (.seq (.ops [⟨(some 25), none, .q (.ld true 15 (.tmp 2))⟩,
      ⟨(some 26), none, .e (.call 10 [(.tmp 25)])⟩,
      ⟨(some 24), none, .q (.mv (.tmp 26))⟩,
      ⟨(some 27), none, .q (.ext (.tmp 24) 0)⟩,
      ⟨(some 28), none, .q (.ext (.tmp 24) 1)⟩,
      ⟨(some 7), none, .q (.mv (.tmp 27))⟩,
      ⟨(some 8), none, .q (.mv (.tmp 28))⟩])
  (.seq (.seq (.ops [⟨(some 29), none, .q (.mv (.tmp 8))⟩,
      ⟨(some 30), none, .q (.bin .neq .num (.tmp 29) (.const (.int .i64 0)))⟩,
      ⟨(some 31), none, .q (.mv (.tmp 30))⟩,
      ⟨(some 32), (some (31, false)), .q (.mv (.tmp 7))⟩,
      ⟨(some 33), (some (31, false)), .q (.bin .eql .num (.tmp 32) (.const (.string ByteArray.empty)))⟩,
      ⟨(some 34), none, .q (.pick (.tmp 31) (.const (.bool true)) (.tmp 33))⟩])
  (.cond (.tmp 34)
    (.seq (.ops [⟨(some 35), none, .q (.mv (.tmp 5))⟩,
        ⟨(some 36), none, .q (.mv (.tmp 35))⟩,
        ⟨(some 37), (some (36, true)), .q (.mv (.tmp 8))⟩,
        ⟨(some 38), (some (36, true)), .q (.bin .eql .num (.tmp 37) (.const (.int .i64 2)))⟩,
        ⟨(some 39), none, .q (.pick (.tmp 36) (.tmp 38) (.const (.bool false)))⟩,
        ⟨(some 4), none, .q (.mv (.tmp 39))⟩])
    (.ret))
    (.skip)))
  (.seq (.ops [⟨(some 40), none, .q (.mv (.tmp 1))⟩,
      ⟨(some 41), none, .q (.mv (.tmp 7))⟩,
      ⟨(some 42), none, .q (.len true (.tmp 41))⟩,
      ⟨(some 43), none, .q (.bin .rem .num (.tmp 40) (.tmp 42))⟩,
      ⟨(some 9), none, .q (.mv (.tmp 43))⟩])
  (.seq (.ops [⟨(some 45), none, .q (.mv (.tmp 7))⟩,
      ⟨(some 46), none, .q (.mv (.tmp 9))⟩,
      ⟨(some 47), none, .q (.ssl (.tmp 45) none (some (.tmp 46)))⟩,
      ⟨(some 48), none, .e (.call 11 [(.tmp 47)])⟩,
      ⟨(some 44), none, .q (.mv (.tmp 48))⟩,
      ⟨(some 49), none, .q (.ext (.tmp 44) 0)⟩,
      ⟨(some 50), none, .q (.ext (.tmp 44) 1)⟩,
      ⟨(some 10), none, .e (.alloc 27 [(.int .i64 0), (.int .i64 0), (.int .i64 0), (.int .i64 0), (.slice none 0 0), (.slice none 0 0), (.int .i64 0), (.slice none 0 0), (.slice none 0 0), (.slice none 0 0), (.slice none 0 0), (.slice none 0 0), (.int .i64 0), (.int .i64 0), (.int .i64 0)])⟩,
      ⟨none, none, .e (.st 15 (.tmp 10) (.tmp 49))⟩,
      ⟨(some 11), none, .q (.mv (.tmp 50))⟩])
  (.seq (.ops [⟨(some 52), none, .q (.mv (.tmp 7))⟩,
      ⟨(some 53), none, .q (.bin .add .num (.tmp 52) (.const (.string ⟨#[120]⟩)))⟩,
      ⟨(some 54), none, .e (.call 11 [(.tmp 53)])⟩,
      ⟨(some 51), none, .q (.mv (.tmp 54))⟩,
      ⟨(some 55), none, .q (.ext (.tmp 51) 0)⟩,
      ⟨(some 56), none, .q (.ext (.tmp 51) 1)⟩,
      ⟨(some 12), none, .e (.alloc 27 [(.int .i64 0), (.int .i64 0), (.int .i64 0), (.int .i64 0), (.slice none 0 0), (.slice none 0 0), (.int .i64 0), (.slice none 0 0), (.slice none 0 0), (.slice none 0 0), (.slice none 0 0), (.slice none 0 0), (.int .i64 0), (.int .i64 0), (.int .i64 0)])⟩,
      ⟨none, none, .e (.st 15 (.tmp 12) (.tmp 55))⟩,
      ⟨(some 13), none, .q (.mv (.tmp 56))⟩])
  (.seq (.ops [⟨(some 57), none, .q (.mv (.tmp 5))⟩,
      ⟨(some 58), none, .q (.mv (.tmp 57))⟩,
      ⟨(some 59), (some (58, true)), .q (.mv (.tmp 11))⟩,
      ⟨(some 60), (some (58, true)), .q (.bin .eql .num (.tmp 59) (.const (.int .i64 3)))⟩,
      ⟨(some 61), (some (58, true)), .q (.mv (.tmp 60))⟩,
      ⟨(some 62), (some (61, false)), .q (.mv (.tmp 11))⟩,
      ⟨(some 63), (some (61, false)), .q (.bin .eql .num (.tmp 62) (.const (.int .i64 2)))⟩,
      ⟨(some 64), (some (58, true)), .q (.pick (.tmp 61) (.const (.bool true)) (.tmp 63))⟩,
      ⟨(some 65), none, .q (.pick (.tmp 58) (.tmp 64) (.const (.bool false)))⟩,
      ⟨(some 66), none, .q (.mv (.tmp 65))⟩,
      ⟨(some 67), (some (66, true)), .q (.mv (.tmp 13))⟩,
      ⟨(some 68), (some (66, true)), .q (.bin .eql .num (.tmp 67) (.const (.int .i64 2)))⟩,
      ⟨(some 69), none, .q (.pick (.tmp 66) (.tmp 68) (.const (.bool false)))⟩,
      ⟨(some 4), none, .q (.mv (.tmp 69))⟩])
  (.ret)))))))))), []⟩
theorem k_law_Cut : compF Tryd.prog 4 = some c_law_Cut := by kernel_rfl
set_option maxHeartbeats 16000000 in
theorem mcut_law {W : World} (L : Laid W) (E : Errs W) (m : Msg) (c : Int) (hlen : MLens m) (hc : c ≤ 9223372036854775807) : ACalls Tryd.prog W 4 [.agg (msgCells m), .v (.int .i64 c)] AHeap.none fun v _ => v = .v (.bool true) := by
  refine fn_run follows k_law_Cut rfl ?_
  simp only [c_law_Cut, aretC_nil, List.zipIdx_cons, List.zipIdx_nil, List.map_cons, List.map_nil, Nat.zero_add]
  (try simp +decide (implicitDefEqProofs := false) only [go_sem, ↓stk_g, ↓stk_c, ↓reduceIte])
  rw [stk_box]
  refine ⟨by rfl, fun b1 h1 => ?_⟩
  (try simp +decide (implicitDefEqProofs := false) only [go_sem, ↓stk_g, ↓stk_c, ↓reduceIte])
  refine stk_pureW ⟨[(2, .pl (msgCells m)), (1, .v (.int .i64 c))], AHeap.none⟩ (Weak.list _ (Sub.none _) ?_) (mawake_ok L E) fun v hv => ?_
  · (try simp +decide (implicitDefEqProofs := false) only [go_sem, ↓stk_g, ↓stk_c, ↓reduceIte])
    exact FZ.cellsR (hp_self _ _ _) rfl
  subst hv
  (try simp +decide (implicitDefEqProofs := false) only [go_sem, ↓stk_g, ↓stk_c, ↓reduceIte, msgCells, lay, oneOr, List.take_succ_cons, List.take_zero, List.drop_succ_cons, List.drop_zero, List.nil_append, List.cons_append, Option.getD_some, Nat.reduceAdd, Nat.reduceLeDiff, List.append_nil, and_self, List.all_cons, List.all_nil])
  refine stk_pure (mlight_ok m hlen) fun v hv => ?_
  obtain ⟨b, rfl, hF⟩ := hv
  cases b
  · (try simp +decide (implicitDefEqProofs := false) only [go_sem, ↓stk_g, ↓stk_c, ↓reduceIte])
    refine aret_pure (.inr rfl) ?_; simp +decide only [retOf, tget, if_true, if_false, ↓reduceIte, List.map_cons, List.map_nil]
  have F := hF rfl
  clear hF
  by_cases hc0 : c < 0
  · (try simp +decide (implicitDefEqProofs := false) only [go_sem, ↓stk_g, ↓stk_c, ↓reduceIte, hc0])
    refine aret_pure (.inr rfl) ?_; simp +decide only [retOf, tget, if_true, if_false, ↓reduceIte, List.map_cons, List.map_nil]
  (try simp +decide (implicitDefEqProofs := false) only [go_sem, ↓stk_g, ↓stk_c, ↓reduceIte, hc0, msgCells, lay, oneOr, List.take_succ_cons, List.take_zero, List.drop_succ_cons, List.drop_zero, List.nil_append, List.cons_append, Option.getD_some, Nat.reduceAdd, Nat.reduceLeDiff, List.append_nil, and_self, List.all_cons, List.all_nil])
  refine stk_pure (encode_ok L m F) fun v hv => ?_
  unfold encR at hv
  cases hr : rightM m
  · rw [hr, if_neg (by simp)] at hv
    subst hv
    (try simp +decide (implicitDefEqProofs := false) only [go_sem, ↓stk_g, ↓stk_c, ↓reduceIte])
    refine aret_pure (.inr rfl) ?_; simp +decide only [retOf, tget, if_true, if_false, ↓reduceIte, List.map_cons, List.map_nil]
  rw [hr, if_pos rfl] at hv
  subst hv
  have hne := msgT_ne m
  have hpos := size_pos hne
  have hlen3 := msgT_len hr
  have d1 : decide (msgT m = ByteArray.empty) = false := decide_eq_false hne
  have hk : c.toNat % (msgT m).size < (msgT m).size := Nat.mod_lt _ hpos
  have hrem : c.tmod ((msgT m).size : Int) = ((c.toNat % (msgT m).size : Nat) : Int) := by
    obtain ⟨n, rfl⟩ : ∃ n : Nat, c = n := ⟨c.toNat, by omega⟩
    rw [Int.tmod_eq_emod_of_nonneg (by omega), Int.toNat_natCast]
    exact (Int.natCast_emod n (msgT m).size).symm
  generalize c.toNat % (msgT m).size = k at hk hrem
  have hnz : ((msgT m).size : Int) ≠ 0 := by omega
  have hk1 : (0 : Int) ≤ (k : Int) := by omega
  have hk2 : (k : Int) ≤ ((msgT m).size : Int) := by omega
  have hmore := decode_more hr
  have hsx : (msgT m).size + 1 ≤ 9223372036854775807 := by omega
  have hx1 : (⟨#[120]⟩ : ByteArray).size = 1 := rfl
  (try simp +decide (implicitDefEqProofs := false) only [go_sem, ↓stk_g, ↓stk_c, ↓reduceIte, d1, hrem, hnz, hk1, hk2, ne_eq, not_false_eq_true])
  refine stk_pure (decode_ok L E (cutS (msgT m) 0 (k : Int)) (by have := cutS_size (msgT m) 0 (k : Int); omega) (hsm_cut hr hk)) fun v hv => ?_
  obtain ⟨e, hdec, he⟩ := mcut_none hr hk
  rw [hdec] at hv
  unfold decodeA at hv
  subst hv
  (try simp +decide (implicitDefEqProofs := false) only [go_sem, ↓stk_g, ↓stk_c, ↓reduceIte, msgCells, lay, oneOr, List.take_succ_cons, List.take_zero, List.drop_succ_cons, List.drop_zero, List.nil_append, List.cons_append, Option.getD_some, Nat.reduceAdd, Nat.reduceLeDiff, List.append_nil, and_self, List.all_cons, List.all_nil])
  rw [stk_alloc]
  intro b2 h2
  (try simp +decide (implicitDefEqProofs := false) only [go_sem, ↓stk_g, ↓stk_c, ↓reduceIte, hp_self, msgCells, hsx, hx1, lay, oneOr, List.take_succ_cons, List.take_zero, List.drop_succ_cons, List.drop_zero, List.nil_append, List.cons_append, Option.getD_some, Nat.reduceAdd, Nat.reduceLeDiff, List.append_nil, and_self, List.all_cons, List.all_nil])
  refine stk_pure (decode_ok L E (msgT m ++ xS) (by rw [ByteArray.size_append, show xS.size = 1 from rfl]; omega) (fun l h => by rw [hmore] at h; cases h)) fun v hv => ?_
  have hV : decodeV (msgT m ++ xS) = (msg0, 2) := by unfold decodeV; rw [hmore]; rfl
  rw [hV] at hv
  unfold decodeA at hv
  subst hv
  rcases he with rfl | rfl
  · (try simp +decide (implicitDefEqProofs := false) only [go_sem, ↓stk_g, ↓stk_c, ↓reduceIte, msgCells, lay, oneOr, List.take_succ_cons, List.take_zero, List.drop_succ_cons, List.drop_zero, List.nil_append, List.cons_append, Option.getD_some, Nat.reduceAdd, Nat.reduceLeDiff, List.append_nil, and_self, List.all_cons, List.all_nil])
    rw [stk_alloc]
    intro b3 h3
    have n3 := new_ne (hp_self _ _ _) h3
    have n3' := n3.symm
    (try simp +decide (implicitDefEqProofs := false) only [go_sem, ↓stk_g, ↓stk_c, ↓reduceIte, hp_self, hp_ne, n3, n3', msgCells, lay, oneOr, List.take_succ_cons, List.take_zero, List.drop_succ_cons, List.drop_zero, List.nil_append, List.cons_append, Option.getD_some, Nat.reduceAdd, Nat.reduceLeDiff, List.append_nil, and_self, List.all_cons, List.all_nil])
    refine aret_pure (.inr rfl) ?_; simp +decide only [retOf, tget, if_true, if_false, ↓reduceIte, List.map_cons, List.map_nil]
  · (try simp +decide (implicitDefEqProofs := false) only [go_sem, ↓stk_g, ↓stk_c, ↓reduceIte, msgCells, lay, oneOr, List.take_succ_cons, List.take_zero, List.drop_succ_cons, List.drop_zero, List.nil_append, List.cons_append, Option.getD_some, Nat.reduceAdd, Nat.reduceLeDiff, List.append_nil, and_self, List.all_cons, List.all_nil])
    rw [stk_alloc]
    intro b3 h3
    have n3 := new_ne (hp_self _ _ _) h3
    have n3' := n3.symm
    (try simp +decide (implicitDefEqProofs := false) only [go_sem, ↓stk_g, ↓stk_c, ↓reduceIte, hp_self, hp_ne, n3, n3', msgCells, lay, oneOr, List.take_succ_cons, List.take_zero, List.drop_succ_cons, List.drop_zero, List.nil_append, List.cons_append, Option.getD_some, Nat.reduceAdd, Nat.reduceLeDiff, List.append_nil, and_self, List.all_cons, List.all_nil])
    refine aret_pure (.inr rfl) ?_; simp +decide only [retOf, tget, if_true, if_false, ↓reduceIte, List.map_cons, List.map_nil]
end Go.Proofs.YtcplmaffccfbdaaDoor.M
