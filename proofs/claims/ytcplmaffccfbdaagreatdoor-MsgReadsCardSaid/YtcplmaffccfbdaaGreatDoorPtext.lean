/-
  Writing into a Builder, and what it holds.
-/
import Derived.Test.YtcplmaffccfbdaaGreatDoorPlift
namespace Go.Proofs.YtcplmaffccfbdaaGreatDoor.M
open Go.RowKit
attribute [local go_sem] stk_nil stk_skip stk_ops stk_seq stk_block stk_scope stk_exit stk_ret stk_code_exit stk_code_ret stk_ops_exit stk_ops_ret stk_endb stk_endb_exit stk_endb_ret stk_endl stk_endl_exit stk_endl_ret stk_ops_nil stk_q stk_niq niqA flip srcOf stk_bsl side val bside bval uside uval cside cval bndS bndV intA isInt lside lval fside fval faside faval iside ival sxside sxval sizeA slside slval llside llval lenside lenval lenA tupA mmside mmval nkside boolA isBool ev_t ev_c tget put_s put_n lkside lkval menval stk_mk Option.isSome_some isMapA mapA keyA FZ_rfl FZ_any retOf true_and and_true if_true if_false decide_true decide_false Bool.not_true Bool.not_false Nat.zero_add List.map_cons List.map_nil Int.toNat_natCast strRows_len intRows_len List.getD_cons_zero List.getD_cons_succ List.length_cons List.length_nil List.forall_mem_cons List.not_mem_nil false_implies implies_true Int.ofNat_zero Int.natCast_add Int.natCast_one Int.ofNat_one Int.natCast_zero isB isU Bool.false_eq_true beq_self_eq_true Bool.false_beq Bool.true_beq Int.natCast_nonneg undef strRows_take strRows_drop Int.toNat_zero List.drop_zero Bool.and_true oneOr List.all_cons List.all_nil AVal.one Value.oneCell' Bool.true_and List.take_length stk_st' stside stH hp_self hp_hp isnside isnval
set_option linter.unusedVariables false
set_option linter.unusedSimpArgs false
theorem bytesOf_append (a b : Str) : bytesOf (a ++ b) = bytesOf a ++ bytesOf b := by
  unfold bytesOf
  rw [ByteArray.data_append, Array.toList_append, List.map_append]
theorem bytesOf_get (t : Str) {j : Nat} (h : j < (bytesOf t).length) (h' : j < t.data.toList.length) : (bytesOf t)[j] = [.v (.int .u8 (t.data.toList[j]).toNat)] := List.getElem_map _
theorem bytesOf_len (a : Str) : (bytesOf a).length = a.size := by
  unfold bytesOf
  rw [List.length_map, Array.length_toList]; rfl
theorem RowO.put {H : AHeap} {E sz : Nat} {x : AVal} {rows : List (List AVal)} (h : RowO H E sz x rows) {b : Nat} {o : AObj} (hb : blkOf x ≠ some b) : RowO (H.put b o) E sz x rows := by
  cases h with
  | nil => exact .nil
  | @bs g n _ h hn => exact .bs (by rw [hp_ne _ _ (fun e => hb (by rw [← e]; rfl))]; exact h) hn
theorem RowO.blk {H : AHeap} {E sz b : Nat} {x : AVal} {rows : List (List AVal)} (h : RowO H E sz x rows) (hb : blkOf x = some b) : H b = some (.buf E sz rows) := by
  cases h with
  | nil => cases hb
  | bs h hn => cases hb; exact h
theorem RowO.shape {H : AHeap} {E sz : Nat} {x : AVal} {rows : List (List AVal)} (h : RowO H E sz x rows) : x = .v (.slice none 0 0) ∨ ∃ g n, x = .bs g sz n := by
  cases h with
  | nil => exact .inl rfl
  | bs h hn => exact .inr ⟨_, _, rfl⟩
theorem RowO.notC {H : AHeap} {E sz b T : Nat} {cs : List AVal} {x : AVal} {rows : List (List AVal)} (h : RowO H E sz x rows) (hb : H b = some (.cells T cs)) : blkOf x ≠ some b := fun e => by
  have := h.blk e
  rw [hb] at this; cases this
theorem RowO.one {H : AHeap} {E sz : Nat} {x : AVal} {rows : List (List AVal)} (h : RowO H E sz x rows) : x.one = true := by cases h <;> rfl
def c_WriteString : AFn := ⟨2, 19, [4, 5],
  .seq (.ops [⟨(some 4), none, .q (.mv (.const (.int .i64 0)))⟩,
      ⟨(some 5), none, .q (.mv (.const .nilIface))⟩])
  (.seq (.ops [⟨(some 6), none, .q (.mv (.tmp 0))⟩,
      ⟨(some 7), none, .e (.call 75 [(.tmp 6)])⟩])
  (.seq (.ops [⟨(some 8), none, .q (.mv (.tmp 0))⟩,
      ⟨(some 9), none, .q (.mv (.tmp 0))⟩,
      ⟨(some 10), none, .q (.nck (.tmp 9))⟩,
      ⟨(some 11), none, .q (.fad 1 1 (.tmp 10))⟩,
      ⟨(some 12), none, .q (.ld false 1 (.tmp 11))⟩,
      ⟨(some 13), none, .q (.mv (.tmp 1))⟩,
      ⟨(some 14), none, .e (.app 5 1 1 true (.tmp 12) (.tmp 13))⟩,
      ⟨(some 15), none, .q (.nck (.tmp 8))⟩,
      ⟨(some 16), none, .q (.fad 1 1 (.tmp 15))⟩,
      ⟨none, none, .e (.st 1 (.tmp 16) (.tmp 14))⟩])
  (.seq (.ops [⟨(some 17), none, .q (.mv (.tmp 1))⟩,
      ⟨(some 18), none, .q (.len true (.tmp 17))⟩,
      ⟨(some 4), none, .q (.mv (.tmp 18))⟩,
      ⟨(some 5), none, .q (.mv (.const .nilIface))⟩])
  (.ret)))), []⟩
theorem k_WriteString : compF Tryz.prog 61 = some c_WriteString := by kernel_rfl
set_option maxHeartbeats 2000000 in
theorem writeT_ok {W : World} {T : TypeId} (hT : Bears T) {H : AHeap} {b : Nat} {t s : Str} (hB : BuildT T H b t) (hs : t.size + s.size ≤ 100000000000) : ACalls Tryz.prog W 61 [.v (.pointer (some ⟨b, 0, none⟩)), .v (.string s)] H fun r H' => BuildT T H' b (t ++ s) := by
  obtain ⟨p, x, hb, hp, hr⟩ := hB
  refine fn_run follows k_WriteString rfl ?_
  simp only [c_WriteString, aretC_nil, List.zipIdx_cons, List.zipIdx_nil, List.map_cons, List.map_nil, Nat.zero_add]
  (try simp +decide (implicitDefEqProofs := false) only [go_sem, ↓stk_g, ↓stk_c, ↓reduceIte])
  refine stk_call (cc_ok hT hb hp) fun v H1 hv => ?_
  obtain ⟨rfl, rfl⟩ := hv
  have hr2 : RowO (H.put b (.cells T [.v (.pointer (some ⟨b, 0, none⟩)), x])) 5 1 x (bytesOf t) := hr.put (hr.notC hb)
  have hxb := hr.notC hb
  obtain rfl | ⟨g0, n0, rfl⟩ := hr.shape
  all_goals (
    (try simp +decide (implicitDefEqProofs := false) only [go_sem, ↓stk_g, ↓stk_c, ↓reduceIte, hp_self, lay, oneOr, List.take_succ_cons, List.take_zero, List.drop_succ_cons, List.drop_zero, List.nil_append, List.cons_append, Option.getD_some, Nat.reduceAdd, Nat.reduceLeDiff, List.append_nil, and_self, List.all_cons, List.all_nil])
    refine stk_appO hr2 (by rfl) (by rw [bytesOf_len, bytesOf_len]; omega) fun x1 H2 h1 h2 => ?_
    have hH2 := h2 b _ (hp_self _ _ _) hxb
    have hnb := h1.notC hH2
    obtain rfl | ⟨g1, n1, rfl⟩ := h1.shape
    all_goals (
      (try simp +decide (implicitDefEqProofs := false) only [go_sem, ↓stk_g, ↓stk_c, ↓reduceIte, hH2, lay, oneOr, List.take_succ_cons, List.take_zero, List.drop_succ_cons, List.drop_zero, List.nil_append, List.cons_append, Option.getD_some, Nat.reduceAdd, Nat.reduceLeDiff, List.append_nil, and_self, List.all_cons, List.all_nil])
      refine ⟨.inr rfl, _, .any, Sub.refl _, .any _, _, _, hp_self _ _ _, .inr rfl, ?_⟩
      rw [bytesOf_append]
      exact h1.put hnb))
theorem write_ok {W : World} {H : AHeap} {b : Nat} {t s : Str} (hB : BuildH H b t) (hs : t.size + s.size ≤ 100000000000) : ACalls Tryz.prog W 61 [.v (.pointer (some ⟨b, 0, none⟩)), .v (.string s)] H fun r H' => BuildH H' b (t ++ s) := writeT_ok liesB hB hs
theorem bstring_ok {W : World} {T : TypeId} {H : AHeap} {b : Nat} {t : Str} (hB : BuildT T H b t) (ht : t ≠ ByteArray.empty) : ACalls Tryz.prog W 16 [.v (.pointer (some ⟨b, 0, none⟩))] H fun r _ => r = .v (.string t) := by
  obtain ⟨p, x, hb, hp, hr⟩ := hB
  intro S w us hw hv
  obtain ⟨u, rfl, hu⟩ := hv.of1
  obtain rfl := hu.v_eq
  obtain ⟨cur, fz, h1, h2, h3, h4, h5⟩ := hw.objs _ _ hb
  obtain ⟨c0, c1, rfl⟩ : ∃ c0 c1, cur = #[c0, c1] := by
    rcases cur with ⟨l⟩
    rcases l with _ | ⟨a, _ | ⟨c, _ | ⟨d, l⟩⟩⟩ <;> simp at h2
    exact ⟨a, c, rfl⟩
  have e1 := h5 1 (by simp) (by simp)
  simp only [List.getElem_cons_succ, List.getElem_cons_zero, List.getElem_toArray] at e1
  have hbl := bytesOf_len t
  generalize hrows : bytesOf t = rows at hr hbl
  have hne : t.data.toList ≠ [] := fun h => ht (by
    apply ByteArray.ext
    apply Array.ext'
    rw [h]; rfl)
  have htl : t.data.toList.length = t.size := by rw [Array.length_toList]; rfl
  cases hr with
  | nil =>
    exfalso
    apply hne
    rw [← List.length_eq_zero_iff, htl, ← hbl]; rfl
  | @bs g n _ hg hn =>
    cases e1 with
    | @bs _ _ _ c hnc hm hwd =>
    obtain ⟨cur2, fz2, c2, k1, k2, k3, k4, k5, k6, k7, k8⟩ := hw.objs _ _ hg
    have hgb : g ≠ b := fun e => by rw [e, hb] at hg; cases hg
    have hnl : n = t.data.toList.length := by rw [hn, hbl, htl]
    subst hnl
    obtain ⟨cur3, E3, fz3, m1, m2⟩ := hwd
    rw [k1] at m1; cases m1
    refine (bstr_row b g c c0 cur2 fz t.data.toList w h1 hne hm hnc ⟨fz2, k1⟩ (by omega) (fun j y hy => ?_)).mono ?_
    · obtain ⟨hj, rfl⟩ := List.getElem?_eq_some_iff.1 hy
      have hjr : j < rows.length := by omega
      obtain ⟨u, hu1, hu2⟩ := k8 j hjr 0 (by rw [k6 j hjr]; omega)
      have e3 : rows[j] = [.v (.int .u8 (t.data.toList[j]).toNat)] := by subst hrows; exact bytesOf_get t hjr hj
      simp only [e3, List.getElem_cons_zero] at hu2
      obtain rfl := hu2.v_eq
      have e4 : w.cell? ⟨g, j, none⟩ = some (.int .u8 (t.data.toList[j]).toNat) := by
        rw [cell_at k1]; simpa using hu1
      unfold Addr.add
      split
      · rename_i h0; subst h0; exact e4
      · simpa using e4
    · rintro e w' ⟨rfl, rfl⟩
      have hother : ∀ c, c ≠ g → (w.drew.freeze ⟨g, 0, none⟩ t.data.toList.length).heap[c]? = w.heap[c]? := fun c hc => by
        unfold World.freeze
        split
        · rfl
        · show (w.heap.modify g _)[c]? = _
          rw [Array.getElem?_modify, if_neg (fun e => hc e.symm)]
      have hsz : (w.drew.freeze ⟨g, 0, none⟩ t.data.toList.length).heap.size = w.heap.size := by
        unfold World.freeze
        split
        · rfl
        · show (w.heap.modify g _).size = _
          simp
      have hwg : ∀ m, Wide w g m → Wide (w.drew.freeze ⟨g, 0, none⟩ t.data.toList.length) g m := fun m ⟨a, E, f, q1, q2⟩ => by
        rw [k1] at q1; cases q1
        unfold World.freeze Wide
        split
        · exact ⟨_, _, _, k1, q2⟩
        · have hfz : ∀ f : Obj → Obj, (∀ fz, ∃ fz', f (.cells cur2 5 fz) = .cells cur2 5 fz') → ∃ fz', (w.heap.modify g f)[g]? = some (.cells cur2 5 fz') := fun f hf => by
            obtain ⟨fz', h⟩ := hf fz2
            exact ⟨fz', by rw [Array.getElem?_modify, if_pos rfl, k1]; simp [h]⟩
          refine Exists.elim (hfz _ ?hf) (fun fz' h => ⟨cur2, _, fz', h, q2⟩)
          rintro ⟨lo, hi⟩
          exact ⟨_, rfl⟩
      have hos : (w.drew.freeze ⟨g, 0, none⟩ t.data.toList.length).os = w.os ∧ (w.drew.freeze ⟨g, 0, none⟩ t.data.toList.length).tape = w.tape ∧ (w.drew.freeze ⟨g, 0, none⟩ t.data.toList.length).output = w.output := by
        unfold World.freeze
        split
        · exact ⟨rfl, rfl, rfl⟩
        · exact ⟨rfl, rfl, rfl⟩
      have hgW := hw.new _ _ hg
      refine ⟨_, AHeap.none, S, _, rfl, rfl, ⟨by rw [hsz]; exact Nat.le_refl _, fun c hc hH => hother c (fun e => by rw [e, hg] at hH; cases hH), wide_of (fun c _ hc => hother c hc) hwg, fun _ h => h, fun _ h => .inl h, fun c h => absurd rfl h⟩, ⟨⟨hos.1.trans hw.old.os, hos.2.1.trans hw.old.tape, hos.2.2.trans hw.old.output, by rw [hsz]; exact hw.old.size, fun c hc => (hother c (by omega)).trans (hw.old.block c hc)⟩, fun _ _ h => (by cases h), fun c h => by rw [hsz]; exact hw.lt c h, fun _ _ h => (by cases h), fun _ _ h => (by cases h)⟩, ?_⟩
      exact .v _
def nlS : Str := ⟨#[10]⟩
def spS : Str := ⟨#[32]⟩
def c_Text1 : AFn := ⟨1, 7, [],
  .ops [⟨(some 3), none, .q (.mv (.tmp 0))⟩,
      ⟨(some 4), none, .e (.call 63 [(.tmp 3), (.const (.string ⟨#[32]⟩))])⟩,
      ⟨(some 5), none, .q (.bin .add .num (.tmp 4) (.const (.string ⟨#[10]⟩)))⟩,
      ⟨(some 6), none, .e (.call 61 [(.tmp 1), (.tmp 5)])⟩], []⟩
theorem k_Text1 : compF Tryz.prog 62 = some c_Text1 := by kernel_rfl
set_option maxHeartbeats 2000000 in
theorem lay_ok {W : World} {H : AHeap} {f : Bool} {b : Nat} {t : Str} (ws : List Str) (hB : BuildH H b t) (hn : ws.length ≤ 1000000) (hs : t.size + (joinS ws spS).size ≤ 10000000000) :
    ACalls Tryz.prog W 62 [.sl f 1 (strRows ws), .v (.pointer (some ⟨b, 0, none⟩))] H fun r H' => BuildH H' b (t ++ (joinS ws spS ++ nlS)) := by
  refine fn_run follows k_Text1 rfl ?_
  simp only [c_Text1, aretC_nil, List.zipIdx_cons, List.zipIdx_nil, List.map_cons, List.map_nil, Nat.zero_add]
  (try simp +decide (implicitDefEqProofs := false) only [go_sem, ↓stk_g, ↓stk_c, ↓reduceIte])
  refine stk_pure (join_ok ws spS hn (by omega)) fun v hv => ?_
  subst hv
  have e1 : ((joinS ws spS).size : Int) + 1 ≤ 9223372036854775807 := by omega
  have e2 : (⟨#[10]⟩ : ByteArray).size = 1 := rfl
  have e3 : (joinS ws spS).size + 1 ≤ 9223372036854775807 := by omega
  (try simp +decide (implicitDefEqProofs := false) only [go_sem, ↓stk_g, ↓stk_c, ↓reduceIte, e2, e3])
  refine stk_call (write_ok (s := joinS ws spS ++ nlS) hB (by rw [ByteArray.size_append, show nlS.size = 1 from rfl]; omega)) fun v H1 hv => ?_
  (try simp +decide (implicitDefEqProofs := false) only [go_sem, ↓stk_g, ↓stk_c, ↓reduceIte])
  exact ⟨.inl rfl, _, .any, Sub.refl _, .any _, hv⟩
end Go.Proofs.YtcplmaffccfbdaaGreatDoor.M
